/- ssi: what is forgotten. No condition. -/
import Derived.Test.YtggmifnkgcladaaXN1
import Derived.Test.YtggmifnkgcladaaXG6
set_option maxRecDepth 20000
namespace Go.Proofs.Ytggmifnkgcladaa
open Go Go.Vc
open Go.Si
theorem mpF_n {F : TM → TM} (hF : ∀ z, (F z).ent = z.ent) {ks : List Int} {txs : List TM} (h : (txs.map TM.n).Nodup) : ((mpF F ks txs).map TM.n).Nodup := by
  rw [map_n (mpF_ent hF ks txs)]; exact h
theorem nk {cl : Nat} {txs : List TM} (h : Wf cl txs) {z : TM} (hz : z ∈ txs) {s : Array Nat} : (z.n : Int) ∉ sk z.inn s := by
  intro hm
  unfold sk at hm
  obtain ⟨e, he, h2⟩ := List.mem_map.1 hm
  obtain ⟨y, hy, h3, h4⟩ := h.cin z hz z.n (mHas_iff.2 (by rw [← h2]; exact List.mem_map_of_mem (List.filter_sublist.subset he)))
  exact h4 (by omega)
theorem nko {cl : Nat} {txs : List TM} (h : Wf cl txs) {z : TM} (hz : z ∈ txs) {s : Array Nat} : (z.n : Int) ∉ sk z.out s := by
  intro hm
  unfold sk at hm
  obtain ⟨e, he, h2⟩ := List.mem_map.1 hm
  obtain ⟨y, hy, h3, h4⟩ := h.cou z hz z.n (mHas_iff.2 (by rw [← h2]; exact List.mem_map_of_mem (List.filter_sublist.subset he)))
  exact h4 (by omega)
theorem nky {cl : Nat} {txs : List TM} (h : Wf cl txs) {z : TM} (hz : z ∈ txs) : (z.n : Int) ∉ keys z.inn := by
  intro hm
  obtain ⟨y, hy, h3, h4⟩ := h.cin z hz z.n (mHas_iff.2 hm)
  exact h4 (by omega)
theorem mget_memk {txs : List TM} (hn : (txs.map TM.n).Nodup) {y : TM} (hy : y ∈ txs) {k : Int} (hk : (y.n : Int) = k) : (mGet k (txs.map TM.ent)).getD (.pointer none) = .pointer (some ⟨y.b, 0, none⟩) := by
  rw [← hk]; exact mget_mem hn hy
def setO (n : Nat) (z : TM) : TM := { z with out := mDel n z.out }
def setI (n : Nat) (z : TM) : TM := { z with inn := mDel n z.inn }
def setWo (z : TM) : TM := { z with wo := true }
def setWi (z : TM) : TM := { z with wi := true }
theorem two_out {n k : Nat} (txs : List TM) : setTx k setWo (setTx k (setO n) txs) = setTx k (lessO true n) txs := by
  rw [setTx_two (f := setO n) (g := setWo) (fun _ => rfl)]; rfl
theorem two_inn {n k : Nat} (txs : List TM) : setTx k setWi (setTx k (setI n) txs) = setTx k (lessI true n) txs := by
  rw [setTx_two (f := setI n) (g := setWi) (fun _ => rfl)]; rfl
theorem sk_cons {l : MEs} {cl : Nat} (h : EOk l cl) {s : Array Nat} {e : Int × Value × Nat} (he : e ∈ l) (hs : e.2.2 ∉ s) {y : TM} (hy : (y.n : Int) = e.1) {F : TM → TM} (hF : ∀ z, (F z).ent = z.ent) (txs : List TM) : mpF F (sk l (s.push e.2.2)) txs = setTx y.n F (mpF F (sk l s) txs) :=
  mpF_step hF (fun j => by rw [sk_push h he, hy]) (by rw [hy]; exact sk_new h he hs) txs
theorem in_mp {F : TM → TM} {l : MEs} {cl : Nat} (h : EOk l cl) {s : Array Nat} {e : Int × Value × Nat} (he : e ∈ l) (hs : e.2.2 ∉ s) {y : TM} (hy : (y.n : Int) = e.1) {txs : List TM} (hm : y ∈ txs) : y ∈ mpF F (sk l s) txs :=
  mpF_mem hm (by rw [hy]; exact sk_new h he hs)
theorem gn_stay {cl : Nat} {txs : List TM} (h : Wf cl txs) {seen : Array Nat} {x z : TM} (hx : x ∈ txs) (hD : x.n ∉ gnD txs seen) (hz : z = cutT true (gnD txs seen) x) (hc : cntM (fgM true (gnD txs seen) txs) z = true) : fgM true (gnD txs (seen.push z.st)) txs = fgM true (gnD txs seen) txs := by
  subst hz
  rw [cnt_fg h hx hD] at hc
  refine fg_congr (fun n => ?_) txs
  show n ∈ gnD txs (seen.push x.st) ↔ _
  rw [gn_push h hx]
  simp [hc]
theorem gn_go {cl : Nat} {txs : List TM} (h : Wf cl txs) {seen : Array Nat} {x z : TM} (hx : x ∈ txs) (hD : x.n ∉ gnD txs seen) (hz : z = cutT true (gnD txs seen) x) (hc : cntM (fgM true (gnD txs seen) txs) z = false) :
    fgM true (gnD txs (seen.push z.st)) txs = delTx z.n (mpF (lessI true z.n) (keys z.out) (mpF (lessO true z.n) (keys z.inn) (fgM true (gnD txs seen) txs))) := by
  subst hz
  rw [cnt_fg h hx hD] at hc
  have := drop_step (w := true) h hx hD
  rw [cutT_n, this]
  refine fg_congr (fun n => ?_) txs
  show n ∈ gnD txs (seen.push x.st) ↔ _
  rw [gn_push h hx, List.mem_cons]
  simp [hc, or_comm]
theorem c_p_ssi_Set_forget (b ba nx sp cl : Nat) (txs : List TM) (hW : Wf cl txs) : CallL Try.prog f_p_ssi_Set_forget (SL b ba nx sp cl txs) [] [.is (.pointer (some ⟨b, 0, none⟩))] (fun _ : Unit => True) (fun _ => SL b ba nx sp cl (fgM true (goneM txs) txs)) (fun _ => .is (.tuple #[])) :=
CallL.of (fn := Try.f31) Try.func31 (n := 78) rfl rfl rfl (fun _ _ => by kernel_rfl) fun E W hb0 => by
  repeat refine J.seq ?_
  refine J.plain ?_
  refine JO.t (ob_move rfl) rfl ?_
  refine JO.t (ob_nilCheck rfl) rfl ?_
  refine JO.t (ob_fieldAddr fo_ssi_Set_2 rfl) rfl ?_
  refine JO.t (ob_ld1 sz_map_int_p_ssi_tx rfl rfl) rfl ?_
  refine JO.rangeI un_map_int_p_ssi_tx rfl rfl (fun r10 => ?_)
  refine JO.nil ?_
  repeat (first | refine JX.next ?_ | refine JX.normal_block ?_)
  refine J.sel [0, 10] (.cons rfl (.cons rfl .nil)) ?_
  repeat refine J.seq ?_
  refine J.block ?_
  repeat refine J.seq ?_
  refine J.subS (L' := ⟨r10, 0, .ob (.mapIter (some ba) cl #[] cl)⟩ :: SL b ba nx sp cl (fgM true (gnD txs #[]) txs)) (by rw [gnD_none, fg_nil]; exact List.Sublist.refl _) ?_
  refine J.loopG (α := Array Nat) (fun s => [(0, .is (.pointer (some ⟨b, 0, none⟩))), (10, .is (.pointer (some ⟨r10, 0, none⟩)))]) (fun s => ⟨r10, 0, .ob (.mapIter (some ba) cl s cl)⟩ :: SL b ba nx sp cl (fgM true (gnD txs s) txs)) (fun s => fun _ => True) (fun s => True) (fun s => (lf txs s).length) #[] [0, 10] (.cons rfl (.cons rfl .nil)) rfl (fun _ => trivial) trivial fun seen _hi => ?_
  try dsimp only
  try dsimp only at _hi
  repeat refine J.seq ?_
  refine J.plain ?_
  refine JO.next (l := (fgM true (gnD txs seen) txs).map TM.ent) (cl := cl) rfl (fun o => (by repeat (first | exact .here | apply Upd.there))) (by repeat (first | exact List.mem_cons_self | exact mem_all | apply List.mem_cons_of_mem)) (fun e he => by obtain ⟨y, hy, rfl⟩ := ent_mem he; exact (hW.fg true (gnD txs seen)).lt y hy) (Nat.le_refl _) rfl (fun go0 e0 seen0 last0 hgo0 hstop0 => ?_)
  refine JO.t (ob_nx rfl) rfl ?_
  refine JO.nil ?_
  repeat (first | refine JX.next ?_ | refine JX.normal_block ?_)
  refine J.sel [0, 10, 12] (.cons rfl (.cons rfl (.cons rfl .nil))) ?_
  repeat refine J.seq ?_
  refine J.cond rfl (fun ht12 => ?_) (fun ht12 => ?_)
  ·
    try simp only [decide_eq_true_eq, decide_eq_false_iff_not] at ht12
    refine J.skip ?_
    repeat (first | refine JX.next ?_ | refine JX.normal_block ?_)
    repeat refine J.seq ?_
    refine J.block ?_
    obtain ⟨hem0, hens0, rfl, rfl⟩ := hgo0 ht12
    obtain ⟨z, hz, rfl⟩ := ent_mem hem0
    obtain ⟨x, hx, hxD, hzx⟩ := fg_mem hz
    have hW0 := hW.fg true (gnD txs seen)
    haveI : HasOwn (SL b ba nx sp cl (fgM true (gnD txs seen) txs)) (z).b ty_ssi_tx (.is (.agg (z).cs.toArray)) := ⟨mem_b hz⟩
    haveI : HasOwn (SL b ba nx sp cl (fgM true (gnD txs seen) txs)) (z).bi 0 (.ob (mObj (z).inn (z).ic)) := ⟨mem_bi hz⟩
    repeat refine J.seq ?_
    refine J.plain ?_
    refine JO.t (ob_entry rfl (by repeat (first | exact List.mem_cons_self | exact mem_all | apply List.mem_cons_of_mem)) (by repeat (first | exact List.mem_cons_self | exact mem_all | apply List.mem_cons_of_mem)) hem0 (st_nodup hW0.st)) rfl ?_
    refine JO.t (ob_exI rfl rfl) rfl ?_
    refine JO.t (ob_exI rfl rfl) rfl ?_
    refine JO.t (ob_assign rfl) rfl ?_
    refine JO.t (ob_assign rfl) rfl ?_
    refine JO.nil ?_
    repeat (first | refine JX.next ?_ | refine JX.normal_block ?_)
    refine J.sel [0, 2, 3, 10] (.cons rfl (.cons rfl (.cons rfl (.cons rfl .nil)))) ?_
    refine J.nodup fun hnd => ?_
    repeat refine J.seq ?_
    refine J.plain ?_
    refine JO.t (ob_move rfl) rfl ?_
    refine JO.t (ob_move rfl) rfl ?_
    refine JO.t (ob_callB rfl (c_p_ssi_Set_counts b ba nx sp cl (fgM true (gnD txs seen) txs) hW0.st hW0.lt z hz) SL_ob (fun o ho => List.mem_cons_of_mem _ ho) (fun _ _ _ => (((List.sublist_cons_self _ _).map _).nodup hnd)) (fun _ h => by cases h) (.one rfl (.one rfl .nil))) rfl ?_
    refine JO.nil ?_
    repeat (first | refine JX.next ?_ | refine JX.normal_block ?_)
    refine J.sel [0, 2, 3, 10, 18] (.cons rfl (.cons rfl (.cons rfl (.cons rfl (.cons rfl .nil))))) ?_
    repeat refine J.seq ?_
    refine J.cond rfl (fun ht18 => ?_) (fun ht18 => ?_)
    ·
      try simp only [decide_eq_true_eq, decide_eq_false_iff_not] at ht18
      repeat refine J.seq ?_
      refine J.exit ?_
      repeat (first | refine JX.hit ?_ | refine JX.miss rfl ?_ | refine JX.exit_pass ?_)
      repeat (first | refine JX.next ?_ | refine JX.normal_block ?_)
      repeat refine JX.normal_block ?_
      refine JX.roundG (x := seen) (seen.push z.st) ?_ ?_ [0, 10] ?_ ?_ ?_ ?_
      · exact trivial
      · exact (by have hzs : z.st = x.st := (by rw [hzx]; rfl); rw [hzs]; exact lf_lt hW.st hx (by rw [← hzs]; exact hens0))
      · exact (.cons rfl (.cons rfl .nil))
      · exact (by rw [gn_stay hW hx hxD hzx ht18]; exact .all)
      · exact fun G hG => by repeat (first | exact hG | refine List.mem_cons_of_mem _ ?_)
      · exact fun _ _ _ => fun _ _ => trivial
    ·
      try simp only [decide_eq_true_eq, decide_eq_false_iff_not] at ht18
      refine J.skip ?_
      repeat (first | refine JX.next ?_ | refine JX.normal_block ?_)
      repeat refine J.seq ?_
      refine J.plain ?_
      refine JO.t (ob_move rfl) rfl ?_
      refine JO.t (ob_nilCheck rfl) rfl ?_
      refine JO.t (ob_fieldAddr fo_ssi_tx_4 rfl) rfl ?_
      refine JO.t (ob_ld1 sz_map_int_bool rfl rfl) rfl ?_
      refine JO.rangeI un_map_int_bool rfl rfl (fun r23 => ?_)
      refine JO.nil ?_
      repeat (first | refine JX.next ?_ | refine JX.normal_block ?_)
      refine J.sel [0, 2, 3, 10, 23] (.cons rfl (.cons rfl (.cons rfl (.cons rfl (.cons rfl .nil))))) ?_
      repeat refine J.seq ?_
      refine J.block ?_
      repeat refine J.seq ?_
      refine J.subS (L' := ⟨r23, 0, .ob (.mapIter (some z.bi) z.ic #[] z.ic)⟩ :: ⟨r10, 0, .ob (.mapIter (some ba) cl (seen.push z.st) cl)⟩ :: SL b ba nx sp cl (mpF (lessO true z.n) (sk z.inn #[]) (fgM true (gnD txs seen) txs))) (by rw [sk_none, mpF_nil]; exact List.Sublist.refl _) ?_
      refine J.loopG (α := Array Nat) (fun s => [(0, .is (.pointer (some ⟨b, 0, none⟩))), (2, .is (.int .i64 (z.n : Nat))), (3, .is (.pointer (some ⟨z.b, 0, none⟩))), (10, .is (.pointer (some ⟨r10, 0, none⟩))), (23, .is (.pointer (some ⟨r23, 0, none⟩)))]) (fun s => ⟨r23, 0, .ob (.mapIter (some z.bi) z.ic s z.ic)⟩ :: ⟨r10, 0, .ob (.mapIter (some ba) cl (seen.push z.st) cl)⟩ :: SL b ba nx sp cl (mpF (lessO true z.n) (sk z.inn s) (fgM true (gnD txs seen) txs))) (fun s => fun _ => True) (fun s => True) (fun s => le_ z.inn s) #[] [0, 2, 3, 10, 23] (.cons rfl (.cons rfl (.cons rfl (.cons rfl (.cons rfl .nil))))) rfl (fun _ => trivial) trivial fun s _hi => ?_
      try dsimp only
      try dsimp only at _hi
      repeat refine J.seq ?_
      refine J.plain ?_
      refine JO.next (l := z.inn) (cl := z.ic) rfl (fun o => (by repeat (first | exact .here | apply Upd.there))) (List.mem_cons_of_mem _ (List.mem_cons_of_mem _ (mem_bi (mpF_mem hz (nk hW0 hz))))) (hW0.inn z hz).lt (Nat.le_refl _) rfl (fun go3 e3 seen3 last3 hgo3 hstop3 => ?_)
      refine JO.t (ob_nx rfl) rfl ?_
      refine JO.nil ?_
      repeat (first | refine JX.next ?_ | refine JX.normal_block ?_)
      refine J.sel [0, 2, 3, 10, 23, 25] (.cons rfl (.cons rfl (.cons rfl (.cons rfl (.cons rfl (.cons rfl .nil)))))) ?_
      repeat refine J.seq ?_
      refine J.cond rfl (fun ht25 => ?_) (fun ht25 => ?_)
      ·
        try simp only [decide_eq_true_eq, decide_eq_false_iff_not] at ht25
        refine J.skip ?_
        repeat (first | refine JX.next ?_ | refine JX.normal_block ?_)
        repeat refine J.seq ?_
        refine J.block ?_
        obtain ⟨hem3, hens3, rfl, rfl⟩ := hgo3 ht25
        obtain ⟨y, hy, hyn, hyne⟩ := hW0.cin z hz e3.1 (mHas_iff.2 (List.mem_map_of_mem hem3))
        have hyc := in_mp (F := lessO true z.n) (hW0.inn z hz) hem3 hens3 hyn hy
        have hnc := mpF_n (F := lessO true z.n) (ks := sk z.inn s) (fun _ => rfl) hW0.n
        haveI : HasOwn (SL b ba nx sp cl (mpF (lessO true z.n) (sk z.inn s) (fgM true (gnD txs seen) txs))) (y).b ty_ssi_tx (.is (.agg (y).cs.toArray)) := ⟨mem_b hyc⟩
        repeat refine J.seq ?_
        refine J.plain ?_
        refine JO.t (ob_entry rfl (by repeat (first | exact List.mem_cons_self | exact mem_all | apply List.mem_cons_of_mem)) (List.mem_cons_of_mem _ (List.mem_cons_of_mem _ (mem_bi (mpF_mem hz (nk hW0 hz))))) hem3 (hW0.inn z hz).st) rfl ?_
        refine JO.t (ob_exI rfl rfl) rfl ?_
        refine JO.t (ob_assign rfl) rfl ?_
        refine JO.nil ?_
        repeat (first | refine JX.next ?_ | refine JX.normal_block ?_)
        refine J.sel [0, 2, 3, 4, 10, 23] (.cons rfl (.cons rfl (.cons rfl (.cons rfl (.cons rfl (.cons rfl .nil)))))) ?_
        repeat refine J.seq ?_
        refine J.plain ?_
        refine JO.t (ob_move rfl) rfl ?_
        refine JO.t (ob_nilCheck rfl) rfl ?_
        refine JO.t (ob_fieldAddr fo_ssi_Set_2 rfl) rfl ?_
        refine JO.t (ob_ld1 sz_map_int_p_ssi_tx rfl rfl) rfl ?_
        refine JO.t (ob_move rfl) rfl ?_
        refine JO.t (ob_mgetI un_map_int_p_ssi_tx un_int zo_p_ssi_tx rfl rfl (mget_memk hnc hyc hyn)) rfl ?_
        refine JO.t (ob_nilCheck rfl) rfl ?_
        refine JO.t (ob_fieldAddr fo_ssi_tx_5 rfl) rfl ?_
        refine JO.t (ob_ld1 sz_map_int_bool rfl rfl) rfl ?_
        refine JO.t (ob_move rfl) rfl ?_
        refine JO.m (obm_mdel un_map_int_bool un_int rfl rfl (.there (.there (upd_out (f := setO z.n) hnc hyc (fun _ => rfl) rfl rfl)))) (Upd.same (.there (.there (upd_out (f := setO z.n) hnc hyc (fun _ => rfl) rfl rfl))) rfl) ?_
        refine JO.nil ?_
        repeat (first | refine JX.next ?_ | refine JX.normal_block ?_)
        refine J.sel [0, 2, 3, 4, 10, 23] (.cons rfl (.cons rfl (.cons rfl (.cons rfl (.cons rfl (.cons rfl .nil)))))) ?_
        haveI : HasOwn (SL b ba nx sp cl (setTx y.n (setO z.n) (mpF (lessO true z.n) (sk z.inn s) (fgM true (gnD txs seen) txs)))) (setO z.n y).b ty_ssi_tx (.is (.agg (setO z.n y).cs.toArray)) := ⟨mem_b (setTx_mem hyc rfl)⟩
        repeat refine J.seq ?_
        refine J.plain ?_
        refine JO.t (ob_move rfl) rfl ?_
        refine JO.t (ob_nilCheck rfl) rfl ?_
        refine JO.t (ob_fieldAddr fo_ssi_Set_2 rfl) rfl ?_
        refine JO.t (ob_ld1 sz_map_int_p_ssi_tx rfl rfl) rfl ?_
        refine JO.t (ob_move rfl) rfl ?_
        refine JO.t (ob_mgetI un_map_int_p_ssi_tx un_int zo_p_ssi_tx rfl rfl (mget_memk (nodup_ent (f := setO z.n) (fun _ => rfl) hnc) (setTx_mem hyc rfl) hyn)) rfl ?_
        refine JO.t (ob_nilCheck rfl) rfl ?_
        refine JO.t (ob_fieldAddr fo_ssi_tx_7 rfl) rfl ?_
        refine JO.m (obm_storeF (cs' := (setWo (setO z.n y)).cs) rfl rfl (.there (.there (upd_tx (f := setWo) (y := setO z.n y) (nodup_ent (f := setO z.n) (fun _ => rfl) hnc) (setTx_mem hyc rfl) (fun _ => rfl) .here))) rfl rfl rfl rfl ss_bool) (Upd.same (.there (.there (upd_tx (f := setWo) (y := setO z.n y) (o := ⟨y.b, ty_ssi_tx, .is (.agg (setO z.n y).cs.toArray)⟩) (o' := ⟨y.b, ty_ssi_tx, .is (.agg (setWo (setO z.n y)).cs.toArray)⟩) (nodup_ent (f := setO z.n) (fun _ => rfl) hnc) (setTx_mem hyc rfl) (fun _ => rfl) .here))) rfl) ?_
        refine JO.nil ?_
        repeat refine JX.normal_block ?_
        refine JX.roundG (x := s) (s.push e3.2.2) ?_ ?_ [0, 2, 3, 10, 23] ?_ ?_ ?_ ?_
        · exact trivial
        · exact le_lt hem3 hens3
        · exact (.cons rfl (.cons rfl (.cons rfl (.cons rfl (.cons rfl .nil)))))
        · exact (by rw [sk_cons (F := lessO true z.n) (hW0.inn z hz) hem3 hens3 hyn (fun _ => rfl), ← two_out]; exact .all)
        · exact fun G hG => by repeat (first | exact hG | refine List.mem_cons_of_mem _ ?_)
        · exact fun _ _ _ => fun _ _ => trivial
      ·
        try simp only [decide_eq_true_eq, decide_eq_false_iff_not] at ht25
        repeat refine J.seq ?_
        refine J.exit ?_
        repeat (first | refine JX.hit ?_ | refine JX.miss rfl ?_ | refine JX.exit_pass ?_)
        repeat (first | refine JX.next ?_ | refine JX.normal_block ?_)
        obtain ⟨rfl, rfl, hall3⟩ := hstop3 ht25
        refine J.subS (L' := ⟨r10, 0, .ob (.mapIter (some ba) cl (seen.push z.st) cl)⟩ :: SL b ba nx sp cl (mpF (lessO true z.n) (keys z.inn) (fgM true (gnD txs seen) txs))) (by rw [sk_all hall3]; exact List.sublist_cons_self _ _) ?_
        have hzU := mpF_mem (F := lessO true z.n) hz (nky hW0 hz)
        haveI : HasOwn (SL b ba nx sp cl (mpF (lessO true z.n) (keys z.inn) (fgM true (gnD txs seen) txs))) (z).b ty_ssi_tx (.is (.agg (z).cs.toArray)) := ⟨mem_b hzU⟩
        haveI : HasOwn (SL b ba nx sp cl (mpF (lessO true z.n) (keys z.inn) (fgM true (gnD txs seen) txs))) (z).bo 0 (.ob (mObj (z).out (z).oc)) := ⟨mem_bo hzU⟩
        repeat refine J.seq ?_
        refine J.plain ?_
        refine JO.t (ob_move rfl) rfl ?_
        refine JO.t (ob_nilCheck rfl) rfl ?_
        refine JO.t (ob_fieldAddr fo_ssi_tx_5 rfl) rfl ?_
        refine JO.t (ob_ld1 sz_map_int_bool rfl rfl) rfl ?_
        refine JO.rangeI un_map_int_bool rfl rfl (fun r50 => ?_)
        refine JO.nil ?_
        repeat (first | refine JX.next ?_ | refine JX.normal_block ?_)
        refine J.sel [0, 2, 10, 50] (.cons rfl (.cons rfl (.cons rfl (.cons rfl .nil)))) ?_
        repeat refine J.seq ?_
        refine J.block ?_
        repeat refine J.seq ?_
        refine J.subS (L' := ⟨r50, 0, .ob (.mapIter (some z.bo) z.oc #[] z.oc)⟩ :: ⟨r10, 0, .ob (.mapIter (some ba) cl (seen.push z.st) cl)⟩ :: SL b ba nx sp cl (mpF (lessI true z.n) (sk z.out #[]) (mpF (lessO true z.n) (keys z.inn) (fgM true (gnD txs seen) txs)))) (by rw [sk_none, mpF_nil]; exact List.Sublist.refl _) ?_
        refine J.loopG (α := Array Nat) (fun s => [(0, .is (.pointer (some ⟨b, 0, none⟩))), (2, .is (.int .i64 (z.n : Nat))), (10, .is (.pointer (some ⟨r10, 0, none⟩))), (50, .is (.pointer (some ⟨r50, 0, none⟩)))]) (fun s => ⟨r50, 0, .ob (.mapIter (some z.bo) z.oc s z.oc)⟩ :: ⟨r10, 0, .ob (.mapIter (some ba) cl (seen.push z.st) cl)⟩ :: SL b ba nx sp cl (mpF (lessI true z.n) (sk z.out s) (mpF (lessO true z.n) (keys z.inn) (fgM true (gnD txs seen) txs)))) (fun s => fun _ => True) (fun s => True) (fun s => le_ z.out s) #[] [0, 2, 10, 50] (.cons rfl (.cons rfl (.cons rfl (.cons rfl .nil)))) rfl (fun _ => trivial) trivial fun s _hi => ?_
        try dsimp only
        try dsimp only at _hi
        repeat refine J.seq ?_
        refine J.plain ?_
        refine JO.next (l := z.out) (cl := z.oc) rfl (fun o => (by repeat (first | exact .here | apply Upd.there))) (List.mem_cons_of_mem _ (List.mem_cons_of_mem _ (mem_bo (mpF_mem hzU (nko hW0 hz))))) (hW0.out z hz).lt (Nat.le_refl _) rfl (fun go5 e5 seen5 last5 hgo5 hstop5 => ?_)
        refine JO.t (ob_nx rfl) rfl ?_
        refine JO.nil ?_
        repeat (first | refine JX.next ?_ | refine JX.normal_block ?_)
        refine J.sel [0, 2, 10, 50, 52] (.cons rfl (.cons rfl (.cons rfl (.cons rfl (.cons rfl .nil))))) ?_
        repeat refine J.seq ?_
        refine J.cond rfl (fun ht52 => ?_) (fun ht52 => ?_)
        ·
          try simp only [decide_eq_true_eq, decide_eq_false_iff_not] at ht52
          refine J.skip ?_
          repeat (first | refine JX.next ?_ | refine JX.normal_block ?_)
          repeat refine J.seq ?_
          refine J.block ?_
          obtain ⟨hem5, hens5, rfl, rfl⟩ := hgo5 ht52
          obtain ⟨y0, hy0, hyn0, hyne⟩ := hW0.cou z hz e5.1 (mHas_iff.2 (List.mem_map_of_mem hem5))
          obtain ⟨y, hyU, hyn⟩ : ∃ y ∈ mpF (lessO true z.n) (keys z.inn) (fgM true (gnD txs seen) txs), (y.n : Int) = e5.1 := ⟨_, mpF_get hy0, by rw [← hyn0]; split <;> rfl⟩
          have hyc := in_mp (F := lessI true z.n) (hW0.out z hz) hem5 hens5 hyn hyU
          have hnc := mpF_n (F := lessI true z.n) (ks := sk z.out s) (fun _ => rfl) (mpF_n (F := lessO true z.n) (ks := keys z.inn) (fun _ => rfl) hW0.n)
          haveI : HasOwn (SL b ba nx sp cl (mpF (lessI true z.n) (sk z.out s) (mpF (lessO true z.n) (keys z.inn) (fgM true (gnD txs seen) txs)))) (y).b ty_ssi_tx (.is (.agg (y).cs.toArray)) := ⟨mem_b hyc⟩
          repeat refine J.seq ?_
          refine J.plain ?_
          refine JO.t (ob_entry rfl (by repeat (first | exact List.mem_cons_self | exact mem_all | apply List.mem_cons_of_mem)) (List.mem_cons_of_mem _ (List.mem_cons_of_mem _ (mem_bo (mpF_mem hzU (nko hW0 hz))))) hem5 (hW0.out z hz).st) rfl ?_
          refine JO.t (ob_exI rfl rfl) rfl ?_
          refine JO.t (ob_assign rfl) rfl ?_
          refine JO.nil ?_
          repeat (first | refine JX.next ?_ | refine JX.normal_block ?_)
          refine J.sel [0, 2, 5, 10, 50] (.cons rfl (.cons rfl (.cons rfl (.cons rfl (.cons rfl .nil))))) ?_
          repeat refine J.seq ?_
          refine J.plain ?_
          refine JO.t (ob_move rfl) rfl ?_
          refine JO.t (ob_nilCheck rfl) rfl ?_
          refine JO.t (ob_fieldAddr fo_ssi_Set_2 rfl) rfl ?_
          refine JO.t (ob_ld1 sz_map_int_p_ssi_tx rfl rfl) rfl ?_
          refine JO.t (ob_move rfl) rfl ?_
          refine JO.t (ob_mgetI un_map_int_p_ssi_tx un_int zo_p_ssi_tx rfl rfl (mget_memk hnc hyc hyn)) rfl ?_
          refine JO.t (ob_nilCheck rfl) rfl ?_
          refine JO.t (ob_fieldAddr fo_ssi_tx_4 rfl) rfl ?_
          refine JO.t (ob_ld1 sz_map_int_bool rfl rfl) rfl ?_
          refine JO.t (ob_move rfl) rfl ?_
          refine JO.m (obm_mdel un_map_int_bool un_int rfl rfl (.there (.there (upd_inn (f := setI z.n) hnc hyc (fun _ => rfl) rfl rfl)))) (Upd.same (.there (.there (upd_inn (f := setI z.n) hnc hyc (fun _ => rfl) rfl rfl))) rfl) ?_
          refine JO.nil ?_
          repeat (first | refine JX.next ?_ | refine JX.normal_block ?_)
          refine J.sel [0, 2, 5, 10, 50] (.cons rfl (.cons rfl (.cons rfl (.cons rfl (.cons rfl .nil))))) ?_
          haveI : HasOwn (SL b ba nx sp cl (setTx y.n (setI z.n) (mpF (lessI true z.n) (sk z.out s) (mpF (lessO true z.n) (keys z.inn) (fgM true (gnD txs seen) txs))))) (setI z.n y).b ty_ssi_tx (.is (.agg (setI z.n y).cs.toArray)) := ⟨mem_b (setTx_mem hyc rfl)⟩
          repeat refine J.seq ?_
          refine J.plain ?_
          refine JO.t (ob_move rfl) rfl ?_
          refine JO.t (ob_nilCheck rfl) rfl ?_
          refine JO.t (ob_fieldAddr fo_ssi_Set_2 rfl) rfl ?_
          refine JO.t (ob_ld1 sz_map_int_p_ssi_tx rfl rfl) rfl ?_
          refine JO.t (ob_move rfl) rfl ?_
          refine JO.t (ob_mgetI un_map_int_p_ssi_tx un_int zo_p_ssi_tx rfl rfl (mget_memk (nodup_ent (f := setI z.n) (fun _ => rfl) hnc) (setTx_mem hyc rfl) hyn)) rfl ?_
          refine JO.t (ob_nilCheck rfl) rfl ?_
          refine JO.t (ob_fieldAddr fo_ssi_tx_6 rfl) rfl ?_
          refine JO.m (obm_storeF (cs' := (setWi (setI z.n y)).cs) rfl rfl (.there (.there (upd_tx (f := setWi) (y := setI z.n y) (nodup_ent (f := setI z.n) (fun _ => rfl) hnc) (setTx_mem hyc rfl) (fun _ => rfl) .here))) rfl rfl rfl rfl ss_bool) (Upd.same (.there (.there (upd_tx (f := setWi) (y := setI z.n y) (o := ⟨y.b, ty_ssi_tx, .is (.agg (setI z.n y).cs.toArray)⟩) (o' := ⟨y.b, ty_ssi_tx, .is (.agg (setWi (setI z.n y)).cs.toArray)⟩) (nodup_ent (f := setI z.n) (fun _ => rfl) hnc) (setTx_mem hyc rfl) (fun _ => rfl) .here))) rfl) ?_
          refine JO.nil ?_
          repeat refine JX.normal_block ?_
          refine JX.roundG (x := s) (s.push e5.2.2) ?_ ?_ [0, 2, 10, 50] ?_ ?_ ?_ ?_
          · exact trivial
          · exact le_lt hem5 hens5
          · exact (.cons rfl (.cons rfl (.cons rfl (.cons rfl .nil))))
          · exact (by rw [sk_cons (F := lessI true z.n) (hW0.out z hz) hem5 hens5 hyn (fun _ => rfl), ← two_inn]; exact .all)
          · exact fun G hG => by repeat (first | exact hG | refine List.mem_cons_of_mem _ ?_)
          · exact fun _ _ _ => fun _ _ => trivial
        ·
          try simp only [decide_eq_true_eq, decide_eq_false_iff_not] at ht52
          repeat refine J.seq ?_
          refine J.exit ?_
          repeat (first | refine JX.hit ?_ | refine JX.miss rfl ?_ | refine JX.exit_pass ?_)
          repeat (first | refine JX.next ?_ | refine JX.normal_block ?_)
          obtain ⟨rfl, rfl, hall5⟩ := hstop5 ht52
          refine J.subS (L' := ⟨r10, 0, .ob (.mapIter (some ba) cl (seen.push z.st) cl)⟩ :: SL b ba nx sp cl (mpF (lessI true z.n) (keys z.out) (mpF (lessO true z.n) (keys z.inn) (fgM true (gnD txs seen) txs)))) (by rw [sk_all hall5]; exact List.sublist_cons_self _ _) ?_
          repeat refine J.seq ?_
          refine J.plain ?_
          refine JO.t (ob_move rfl) rfl ?_
          refine JO.t (ob_nilCheck rfl) rfl ?_
          refine JO.t (ob_fieldAddr fo_ssi_Set_2 rfl) rfl ?_
          refine JO.t (ob_ld1 sz_map_int_p_ssi_tx rfl rfl) rfl ?_
          refine JO.t (ob_move rfl) rfl ?_
          refine JO.m (obm_mdel un_map_int_p_ssi_tx un_int rfl rfl (.there (.there .here))) (Upd.same (o := ⟨ba, 0, .ob (mObj ((mpF (lessI true z.n) (keys z.out) (mpF (lessO true z.n) (keys z.inn) (fgM true (gnD txs seen) txs))).map TM.ent) cl)⟩) (.there (.there .here)) rfl) ?_
          refine JO.sub (L' := ⟨r10, 0, .ob (.mapIter (some ba) cl (seen.push z.st) cl)⟩ :: SL b ba nx sp cl (delTx z.n (mpF (lessI true z.n) (keys z.out) (mpF (lessO true z.n) (keys z.inn) (fgM true (gnD txs seen) txs))))) (by rw [mdel_all (mpF_n (F := lessI true z.n) (fun _ => rfl) (mpF_n (F := lessO true z.n) (fun _ => rfl) hW0.n))]; exact SL_del.cons_cons _) ?_
          refine JO.nil ?_
          repeat refine JX.normal_block ?_
          refine JX.roundG (x := seen) (seen.push z.st) ?_ ?_ [0, 10] ?_ ?_ ?_ ?_
          · exact trivial
          · exact (by have hzs : z.st = x.st := (by rw [hzx]; rfl); rw [hzs]; exact lf_lt hW.st hx (by rw [← hzs]; exact hens0))
          · exact (.cons rfl (.cons rfl .nil))
          · exact (by rw [gn_go hW hx hxD hzx ht18]; exact .all)
          · exact fun G hG => by repeat (first | exact hG | refine List.mem_cons_of_mem _ ?_)
          · exact fun _ _ _ => fun _ _ => trivial
  ·
    try simp only [decide_eq_true_eq, decide_eq_false_iff_not] at ht12
    repeat refine J.seq ?_
    refine J.exit ?_
    repeat (first | refine JX.hit ?_ | refine JX.miss rfl ?_ | refine JX.exit_pass ?_)
    repeat (first | refine JX.next ?_ | refine JX.normal_block ?_)
    refine JX.normal_ret ?_
    obtain ⟨rfl, rfl, hall⟩ := hstop0 ht12
    refine JX.retL0 (Lr := [_]) (L1 := fun _ : Unit => SL b ba nx sp cl (fgM true (goneM txs) txs)) rfl () trivial (by rw [gn_end hW hall]; exact (List.perm_append_singleton _ _).symm) SL_out hb0 rfl
end Go.Proofs.Ytggmifnkgcladaa
set_option maxRecDepth 20000
namespace Go.Proofs.Ytggmifnkgcladaa
open Go Go.Vc
open Go.Si
theorem ob_nilCheckV {P : Program} {L : List Own} {Φ : List (World → Prop)} {H : Know} {dst : Option Nat} {ty : TypeId} {pos : String} {after : Array Edge} {g : Option (Nat × Bool)} {x : Operand} {V : Value} {p : Addr} (hx : H x (.is V)) (h : V = .pointer (some p)) : Ob P L Φ H ⟨dst, .nilCheck x, ty, pos, after, g⟩ (.is (.pointer (some p))) := by subst h; exact ob_nilCheck hx
def liveM (k : Int) (txs : List TM) : Option TM := match actM k txs with | none => none | some x => if 0 < x.done then none else some x
theorem act_live {k : Int} {txs : List TM} (h : (actE (actM k txs) != 0) = false) : ∃ x ∈ txs, (x.n : Int) = k ∧ x.done = 0 ∧ actM k txs = some x ∧ liveM k txs = some x ∧ actP (actM k txs) = .pointer (some ⟨x.b, 0, none⟩) := by
  unfold liveM
  cases ha : actM k txs with
  | none => rw [ha] at h; simp [actE] at h
  | some x =>
    rw [ha] at h
    have hd : ¬ 0 < x.done := fun hd => by simp [actE, hd] at h
    refine ⟨x, (act_mem ha).1, (act_mem ha).2, by omega, rfl, by simp [hd], by simp [actP, hd]⟩
theorem act_dead {k : Int} {txs : List TM} (h : (actE (actM k txs) != 0) = true) : liveM k txs = none ∧ actE (actM k txs) = 41 := by
  unfold liveM
  cases ha : actM k txs with
  | none => exact ⟨rfl, rfl⟩
  | some x =>
    rw [ha] at h
    have hd : 0 < x.done := by
      by_cases hd : 0 < x.done
      · exact hd
      · simp [actE, hd] at h
    simp [hd, actE]
def liveE (k : Int) (txs : List TM) : Int := match liveM k txs with | none => 41 | some _ => 0
def ab1 (n : Nat) (txs : List TM) : List TM := fgM true (goneM (fgM false [n] txs)) (fgM false [n] txs)
def abM (k : Int) (txs : List TM) : List TM := match liveM k txs with | none => txs | some x => ab1 x.n txs
theorem ab_drop {cl : Nat} {txs : List TM} (h : Wf cl txs) {x : TM} (hx : x ∈ txs) : delTx x.n (mpF (lessI false x.n) (keys x.out) (mpF (lessO false x.n) (keys x.inn) txs)) = fgM false [x.n] txs := by
  have := drop_step (w := false) (D := []) h hx (by simp)
  rw [fg_nil] at this
  have hc : cutT false [] x = x := by
    have hf : ∀ l : MEs, l.filter (fun _ => true) = l := fun l => List.filter_eq_self.2 fun _ _ => rfl
    unfold cutT
    simp [hf]
  rw [hc] at this
  exact this
theorem c_p_ssi_Set_Abort (b ba nx sp cl : Nat) (txs : List TM) (hW : Wf cl txs) (k : Int) : CallL Try.prog f_p_ssi_Set_Abort (SL b ba nx sp cl txs) [] [.is (.pointer (some ⟨b, 0, none⟩)), .is (.int .i64 k)] (fun _ : Unit => True) (fun _ => SL b ba nx sp cl (abM k txs)) (fun _ => .is (.int .i64 (liveE k txs))) :=
CallL.of (fn := Try.f21) Try.func21 (n := 63) rfl rfl rfl (fun _ _ => by kernel_rfl) fun E W hb0 => by
  refine J.nodup fun hnd => ?_
  repeat refine J.seq ?_
  refine J.plain ?_
  refine JO.t (ob_assign rfl) rfl ?_
  refine JO.nil ?_
  repeat (first | refine JX.next ?_ | refine JX.normal_block ?_)
  refine J.sel [0, 1] (.cons rfl (.cons rfl .nil)) ?_
  repeat refine J.seq ?_
  refine J.plain ?_
  refine JO.t (ob_move rfl) rfl ?_
  refine JO.t (ob_move rfl) rfl ?_
  refine JO.t (ob_callB rfl (c_p_ssi_Set_active b ba nx sp cl txs k) SL_ob (fun _ h => h) (fun _ _ _ => hnd) (fun _ h => by cases h) (.one rfl (.one rfl .nil))) rfl ?_
  refine JO.t (ob_move rfl) rfl ?_
  refine JO.t (ob_exI rfl rfl) rfl ?_
  refine JO.t (ob_exI rfl rfl) rfl ?_
  refine JO.t (ob_assign rfl) rfl ?_
  refine JO.t (ob_assign rfl) rfl ?_
  refine JO.nil ?_
  repeat (first | refine JX.next ?_ | refine JX.normal_block ?_)
  refine J.sel [0, 1, 5, 6] (.cons rfl (.cons rfl (.cons rfl (.cons rfl .nil)))) ?_
  repeat refine J.seq ?_
  refine J.plain ?_
  refine JO.t (ob_move rfl) rfl ?_
  refine JO.t (ob_neq rfl rfl) rfl ?_
  refine JO.nil ?_
  repeat (first | refine JX.next ?_ | refine JX.normal_block ?_)
  refine J.sel [0, 1, 5, 6, 16] (.cons rfl (.cons rfl (.cons rfl (.cons rfl (.cons rfl .nil))))) ?_
  repeat refine J.seq ?_
  refine J.cond rfl (fun ht16 => ?_) (fun ht16 => ?_)
  ·
    try simp only [decide_eq_true_eq, decide_eq_false_iff_not] at ht16
    repeat refine J.seq ?_
    refine J.plain ?_
    refine JO.t (ob_move rfl) rfl ?_
    refine JO.t (ob_assign rfl) rfl ?_
    refine JO.nil ?_
    repeat (first | refine JX.next ?_ | refine JX.normal_block ?_)
    refine J.sel [4] (.cons rfl .nil) ?_
    repeat refine J.seq ?_
    refine J.ret ?_
    repeat (first | refine JX.ret_pass ?_ | refine JX.ret_block ?_)
    obtain ⟨hl0, he0⟩ := act_dead ht16
    have hab : abM k txs = txs := by unfold abM; rw [hl0]
    exact JX.retL1 (Lr := []) (L1 := fun _ : Unit => SL b ba nx sp cl (abM k txs)) rfl () trivial (by rw [hab, List.append_nil]) SL_out rfl hb0 rfl (Sub.isEq (by rw [he0]; unfold liveE; rw [hl0]; rfl))
  ·
    try simp only [decide_eq_true_eq, decide_eq_false_iff_not] at ht16
    refine J.skip ?_
    repeat (first | refine JX.next ?_ | refine JX.normal_block ?_)
    obtain ⟨x, hx, hxk, hxd, hxa, hxl, hxP⟩ := act_live ht16
    haveI : HasOwn (SL b ba nx sp cl txs) x.b ty_ssi_tx (.is (.agg x.cs.toArray)) := ⟨mem_b hx⟩
    haveI : HasOwn (SL b ba nx sp cl txs) x.bi 0 (.ob (mObj x.inn x.ic)) := ⟨mem_bi hx⟩
    repeat refine J.seq ?_
    refine J.plain ?_
    refine JO.t (ob_move rfl) rfl ?_
    refine JO.t (ob_nilCheckV rfl hxP) rfl ?_
    refine JO.t (ob_fieldAddr fo_ssi_tx_4 rfl) rfl ?_
    refine JO.t (ob_ld1 sz_map_int_bool rfl rfl) rfl ?_
    refine JO.rangeI un_map_int_bool rfl rfl (fun r22 => ?_)
    refine JO.nil ?_
    repeat (first | refine JX.next ?_ | refine JX.normal_block ?_)
    refine J.sel [0, 1, 5, 22] (.cons rfl (.cons rfl (.cons rfl (.cons rfl .nil)))) ?_
    repeat refine J.seq ?_
    refine J.block ?_
    repeat refine J.seq ?_
    refine J.subS (L' := ⟨r22, 0, .ob (.mapIter (some x.bi) x.ic #[] x.ic)⟩ :: SL b ba nx sp cl (mpF (lessO false x.n) (sk x.inn #[]) txs)) (by rw [sk_none, mpF_nil]; exact List.Sublist.refl _) ?_
    refine J.loopG (α := Array Nat) (fun s => [(0, .is (.pointer (some ⟨b, 0, none⟩))), (1, .is (.int .i64 k)), (5, .is (actP (actM k txs))), (22, .is (.pointer (some ⟨r22, 0, none⟩)))]) (fun s => ⟨r22, 0, .ob (.mapIter (some x.bi) x.ic s x.ic)⟩ :: SL b ba nx sp cl (mpF (lessO false x.n) (sk x.inn s) txs)) (fun s => fun _ => True) (fun s => True) (fun s => le_ x.inn s) #[] [0, 1, 5, 22] (.cons rfl (.cons rfl (.cons rfl (.cons rfl .nil)))) rfl (fun _ => trivial) trivial fun s _hi => ?_
    try dsimp only
    try dsimp only at _hi
    repeat refine J.seq ?_
    refine J.plain ?_
    refine JO.next (l := x.inn) (cl := x.ic) rfl (fun o => (by repeat (first | exact .here | apply Upd.there))) (List.mem_cons_of_mem _ (mem_bi (mpF_mem hx (nk hW hx)))) (hW.inn x hx).lt (Nat.le_refl _) rfl (fun go3 e3 seen3 last3 hgo3 hstop3 => ?_)
    refine JO.t (ob_nx rfl) rfl ?_
    refine JO.nil ?_
    repeat (first | refine JX.next ?_ | refine JX.normal_block ?_)
    refine J.sel [0, 1, 5, 22, 24] (.cons rfl (.cons rfl (.cons rfl (.cons rfl (.cons rfl .nil))))) ?_
    repeat refine J.seq ?_
    refine J.cond rfl (fun ht24 => ?_) (fun ht24 => ?_)
    ·
      try simp only [decide_eq_true_eq, decide_eq_false_iff_not] at ht24
      refine J.skip ?_
      repeat (first | refine JX.next ?_ | refine JX.normal_block ?_)
      repeat refine J.seq ?_
      refine J.block ?_
      obtain ⟨hem3, hens3, rfl, rfl⟩ := hgo3 ht24
      obtain ⟨y, hy, hyn, hyne⟩ := hW.cin x hx e3.1 (mHas_iff.2 (List.mem_map_of_mem hem3))
      have hyc := in_mp (F := lessO false x.n) (hW.inn x hx) hem3 hens3 hyn hy
      have hnc := mpF_n (F := lessO false x.n) (ks := sk x.inn s) (fun _ => rfl) hW.n
      haveI : HasOwn (SL b ba nx sp cl (mpF (lessO false x.n) (sk x.inn s) txs)) (y).b ty_ssi_tx (.is (.agg (y).cs.toArray)) := ⟨mem_b hyc⟩
      repeat refine J.seq ?_
      refine J.plain ?_
      refine JO.t (ob_entry rfl (by repeat (first | exact List.mem_cons_self | exact mem_all | apply List.mem_cons_of_mem)) (List.mem_cons_of_mem _ (mem_bi (mpF_mem hx (nk hW hx)))) hem3 (hW.inn x hx).st) rfl ?_
      refine JO.t (ob_exI rfl rfl) rfl ?_
      refine JO.t (ob_assign rfl) rfl ?_
      refine JO.nil ?_
      repeat (first | refine JX.next ?_ | refine JX.normal_block ?_)
      refine J.sel [0, 1, 5, 7, 22] (.cons rfl (.cons rfl (.cons rfl (.cons rfl (.cons rfl .nil))))) ?_
      repeat refine J.seq ?_
      refine J.plain ?_
      refine JO.t (ob_move rfl) rfl ?_
      refine JO.t (ob_nilCheck rfl) rfl ?_
      refine JO.t (ob_fieldAddr fo_ssi_Set_2 rfl) rfl ?_
      refine JO.t (ob_ld1 sz_map_int_p_ssi_tx rfl rfl) rfl ?_
      refine JO.t (ob_move rfl) rfl ?_
      refine JO.t (ob_mgetI un_map_int_p_ssi_tx un_int zo_p_ssi_tx rfl rfl (mget_memk hnc hyc hyn)) rfl ?_
      refine JO.t (ob_nilCheck rfl) rfl ?_
      refine JO.t (ob_fieldAddr fo_ssi_tx_5 rfl) rfl ?_
      refine JO.t (ob_ld1 sz_map_int_bool rfl rfl) rfl ?_
      refine JO.t (ob_move rfl) rfl ?_
      refine JO.m (obm_mdel (n := (x.n : Int)) un_map_int_bool un_int rfl (by rw [hxk]; rfl) (.there (upd_out (f := lessO false x.n) hnc hyc (fun _ => rfl) rfl rfl))) (Upd.same (.there (upd_out (f := lessO false x.n) hnc hyc (fun _ => rfl) rfl rfl)) rfl) ?_
      refine JO.nil ?_
      repeat refine JX.normal_block ?_
      refine JX.roundG (x := s) (s.push e3.2.2) ?_ ?_ [0, 1, 5, 22] ?_ ?_ ?_ ?_
      · exact trivial
      · exact le_lt hem3 hens3
      · exact (.cons rfl (.cons rfl (.cons rfl (.cons rfl .nil))))
      · exact (by rw [sk_cons (F := lessO false x.n) (hW.inn x hx) hem3 hens3 hyn (fun _ => rfl)]; exact .all)
      · exact fun G hG => by repeat (first | exact hG | refine List.mem_cons_of_mem _ ?_)
      · exact fun _ _ _ => fun _ _ => trivial
    ·
      try simp only [decide_eq_true_eq, decide_eq_false_iff_not] at ht24
      repeat refine J.seq ?_
      refine J.exit ?_
      repeat (first | refine JX.hit ?_ | refine JX.miss rfl ?_ | refine JX.exit_pass ?_)
      repeat (first | refine JX.next ?_ | refine JX.normal_block ?_)
      obtain ⟨rfl, rfl, hall3⟩ := hstop3 ht24
      refine J.subS (L' := SL b ba nx sp cl (mpF (lessO false x.n) (keys x.inn) txs)) (by rw [sk_all hall3]; exact List.sublist_cons_self _ _) ?_
      have hxU := mpF_mem (F := lessO false x.n) hx (nky hW hx)
      haveI : HasOwn (SL b ba nx sp cl (mpF (lessO false x.n) (keys x.inn) txs)) (x).b ty_ssi_tx (.is (.agg (x).cs.toArray)) := ⟨mem_b hxU⟩
      haveI : HasOwn (SL b ba nx sp cl (mpF (lessO false x.n) (keys x.inn) txs)) (x).bo 0 (.ob (mObj (x).out (x).oc)) := ⟨mem_bo hxU⟩
      repeat refine J.seq ?_
      refine J.plain ?_
      refine JO.t (ob_move rfl) rfl ?_
      refine JO.t (ob_nilCheckV rfl hxP) rfl ?_
      refine JO.t (ob_fieldAddr fo_ssi_tx_5 rfl) rfl ?_
      refine JO.t (ob_ld1 sz_map_int_bool rfl rfl) rfl ?_
      refine JO.rangeI un_map_int_bool rfl rfl (fun r41 => ?_)
      refine JO.nil ?_
      repeat (first | refine JX.next ?_ | refine JX.normal_block ?_)
      refine J.sel [0, 1, 41] (.cons rfl (.cons rfl (.cons rfl .nil))) ?_
      repeat refine J.seq ?_
      refine J.block ?_
      repeat refine J.seq ?_
      refine J.subS (L' := ⟨r41, 0, .ob (.mapIter (some x.bo) x.oc #[] x.oc)⟩ :: SL b ba nx sp cl (mpF (lessI false x.n) (sk x.out #[]) (mpF (lessO false x.n) (keys x.inn) txs))) (by rw [sk_none, mpF_nil]; exact List.Sublist.refl _) ?_
      refine J.loopG (α := Array Nat) (fun s => [(0, .is (.pointer (some ⟨b, 0, none⟩))), (1, .is (.int .i64 k)), (41, .is (.pointer (some ⟨r41, 0, none⟩)))]) (fun s => ⟨r41, 0, .ob (.mapIter (some x.bo) x.oc s x.oc)⟩ :: SL b ba nx sp cl (mpF (lessI false x.n) (sk x.out s) (mpF (lessO false x.n) (keys x.inn) txs))) (fun s => fun _ => True) (fun s => True) (fun s => le_ x.out s) #[] [0, 1, 41] (.cons rfl (.cons rfl (.cons rfl .nil))) rfl (fun _ => trivial) trivial fun s _hi => ?_
      try dsimp only
      try dsimp only at _hi
      repeat refine J.seq ?_
      refine J.plain ?_
      refine JO.next (l := x.out) (cl := x.oc) rfl (fun o => (by repeat (first | exact .here | apply Upd.there))) (List.mem_cons_of_mem _ (mem_bo (mpF_mem hxU (nko hW hx)))) (hW.out x hx).lt (Nat.le_refl _) rfl (fun go5 e5 seen5 last5 hgo5 hstop5 => ?_)
      refine JO.t (ob_nx rfl) rfl ?_
      refine JO.nil ?_
      repeat (first | refine JX.next ?_ | refine JX.normal_block ?_)
      refine J.sel [0, 1, 41, 43] (.cons rfl (.cons rfl (.cons rfl (.cons rfl .nil)))) ?_
      repeat refine J.seq ?_
      refine J.cond rfl (fun ht43 => ?_) (fun ht43 => ?_)
      ·
        try simp only [decide_eq_true_eq, decide_eq_false_iff_not] at ht43
        refine J.skip ?_
        repeat (first | refine JX.next ?_ | refine JX.normal_block ?_)
        repeat refine J.seq ?_
        refine J.block ?_
        obtain ⟨hem5, hens5, rfl, rfl⟩ := hgo5 ht43
        obtain ⟨y0, hy0, hyn0, hyne⟩ := hW.cou x hx e5.1 (mHas_iff.2 (List.mem_map_of_mem hem5))
        obtain ⟨y, hyU, hyn⟩ : ∃ y ∈ mpF (lessO false x.n) (keys x.inn) txs, (y.n : Int) = e5.1 := ⟨_, mpF_get hy0, by rw [← hyn0]; split <;> rfl⟩
        have hyc := in_mp (F := lessI false x.n) (hW.out x hx) hem5 hens5 hyn hyU
        have hnc := mpF_n (F := lessI false x.n) (ks := sk x.out s) (fun _ => rfl) (mpF_n (F := lessO false x.n) (ks := keys x.inn) (fun _ => rfl) hW.n)
        haveI : HasOwn (SL b ba nx sp cl (mpF (lessI false x.n) (sk x.out s) (mpF (lessO false x.n) (keys x.inn) txs))) (y).b ty_ssi_tx (.is (.agg (y).cs.toArray)) := ⟨mem_b hyc⟩
        repeat refine J.seq ?_
        refine J.plain ?_
        refine JO.t (ob_entry rfl (by repeat (first | exact List.mem_cons_self | exact mem_all | apply List.mem_cons_of_mem)) (List.mem_cons_of_mem _ (mem_bo (mpF_mem hxU (nko hW hx)))) hem5 (hW.out x hx).st) rfl ?_
        refine JO.t (ob_exI rfl rfl) rfl ?_
        refine JO.t (ob_assign rfl) rfl ?_
        refine JO.nil ?_
        repeat (first | refine JX.next ?_ | refine JX.normal_block ?_)
        refine J.sel [0, 1, 8, 41] (.cons rfl (.cons rfl (.cons rfl (.cons rfl .nil)))) ?_
        repeat refine J.seq ?_
        refine J.plain ?_
        refine JO.t (ob_move rfl) rfl ?_
        refine JO.t (ob_nilCheck rfl) rfl ?_
        refine JO.t (ob_fieldAddr fo_ssi_Set_2 rfl) rfl ?_
        refine JO.t (ob_ld1 sz_map_int_p_ssi_tx rfl rfl) rfl ?_
        refine JO.t (ob_move rfl) rfl ?_
        refine JO.t (ob_mgetI un_map_int_p_ssi_tx un_int zo_p_ssi_tx rfl rfl (mget_memk hnc hyc hyn)) rfl ?_
        refine JO.t (ob_nilCheck rfl) rfl ?_
        refine JO.t (ob_fieldAddr fo_ssi_tx_4 rfl) rfl ?_
        refine JO.t (ob_ld1 sz_map_int_bool rfl rfl) rfl ?_
        refine JO.t (ob_move rfl) rfl ?_
        refine JO.m (obm_mdel (n := (x.n : Int)) un_map_int_bool un_int rfl (by rw [hxk]; rfl) (.there (upd_inn (f := lessI false x.n) hnc hyc (fun _ => rfl) rfl rfl))) (Upd.same (.there (upd_inn (f := lessI false x.n) hnc hyc (fun _ => rfl) rfl rfl)) rfl) ?_
        refine JO.nil ?_
        repeat refine JX.normal_block ?_
        refine JX.roundG (x := s) (s.push e5.2.2) ?_ ?_ [0, 1, 41] ?_ ?_ ?_ ?_
        · exact trivial
        · exact le_lt hem5 hens5
        · exact (.cons rfl (.cons rfl (.cons rfl .nil)))
        · exact (by rw [sk_cons (F := lessI false x.n) (hW.out x hx) hem5 hens5 hyn (fun _ => rfl)]; exact .all)
        · exact fun G hG => by repeat (first | exact hG | refine List.mem_cons_of_mem _ ?_)
        · exact fun _ _ _ => fun _ _ => trivial
      ·
        try simp only [decide_eq_true_eq, decide_eq_false_iff_not] at ht43
        repeat refine J.seq ?_
        refine J.exit ?_
        repeat (first | refine JX.hit ?_ | refine JX.miss rfl ?_ | refine JX.exit_pass ?_)
        repeat (first | refine JX.next ?_ | refine JX.normal_block ?_)
        obtain ⟨rfl, rfl, hall5⟩ := hstop5 ht43
        refine J.subS (L' := SL b ba nx sp cl (mpF (lessI false x.n) (keys x.out) (mpF (lessO false x.n) (keys x.inn) txs))) (by rw [sk_all hall5]; exact List.sublist_cons_self _ _) ?_
        repeat refine J.seq ?_
        refine J.plain ?_
        refine JO.t (ob_move rfl) rfl ?_
        refine JO.t (ob_nilCheck rfl) rfl ?_
        refine JO.t (ob_fieldAddr fo_ssi_Set_2 rfl) rfl ?_
        refine JO.t (ob_ld1 sz_map_int_p_ssi_tx rfl rfl) rfl ?_
        refine JO.t (ob_move rfl) rfl ?_
        refine JO.m (obm_mdel (n := (x.n : Int)) un_map_int_p_ssi_tx un_int rfl (by rw [hxk]; rfl) (.there .here)) (Upd.same (o := ⟨ba, 0, .ob (mObj ((mpF (lessI false x.n) (keys x.out) (mpF (lessO false x.n) (keys x.inn) txs)).map TM.ent) cl)⟩) (.there .here) rfl) ?_
        refine JO.sub (L' := SL b ba nx sp cl (fgM false [x.n] txs)) (by rw [mdel_all (mpF_n (F := lessI false x.n) (fun _ => rfl) (mpF_n (F := lessO false x.n) (fun _ => rfl) hW.n)), ← ab_drop hW hx]; exact SL_del) ?_
        refine JO.nil ?_
        repeat (first | refine JX.next ?_ | refine JX.normal_block ?_)
        refine J.sel [0] (.cons rfl .nil) ?_
        repeat refine J.seq ?_
        refine J.plain ?_
        refine JO.t (ob_move rfl) rfl ?_
        refine JO.callL (Lr := []) (c_p_ssi_Set_forget b ba nx sp cl (fgM false [x.n] txs) (hW.fg false [x.n])) (fun d e => by injection e with e; show d < 63; omega) (by rw [List.append_nil]) (fun _ h => by cases h) (.one rfl .nil) ?_
        intro _ _
        rw [List.append_nil]
        refine JO.nil ?_
        repeat (first | refine JX.next ?_ | refine JX.normal_block ?_)
        refine J.sel [] .nil ?_
        repeat refine J.seq ?_
        refine J.plain ?_
        refine JO.t (ob_assign rfl) rfl ?_
        refine JO.nil ?_
        repeat (first | refine JX.next ?_ | refine JX.normal_block ?_)
        refine J.sel [4] (.cons rfl .nil) ?_
        repeat refine J.seq ?_
        refine J.ret ?_
        repeat (first | refine JX.ret_pass ?_ | refine JX.ret_block ?_)
        have hab : abM k txs = ab1 x.n txs := by unfold abM; rw [hxl]
        exact JX.retL1 (Lr := []) (L1 := fun _ : Unit => SL b ba nx sp cl (abM k txs)) rfl () trivial (by rw [hab, List.append_nil]; exact .refl _) SL_out rfl hb0 rfl (Sub.isEq (by unfold liveE; rw [hxl]))
end Go.Proofs.Ytggmifnkgcladaa
set_option maxRecDepth 20000
namespace Go.Proofs.Ytggmifnkgcladaa
open Go Go.Vc
open Go.Si
def jd1 (y : TM) : Bool := decide ((0 : Int) < (y.done : Int)) && pvM y
def jdM (txs : List TM) : Bool := txs.any jd1
def jgT (k : Int) (txs : List TM) : List TM := if jdM txs then abM k txs else txs
def jgE (txs : List TM) : Int := if jdM txs then 40 else 0
theorem _root_.Go.Si.Wf.map {cl : Nat} {txs : List TM} (h : Wf cl txs) (f : TM → TM) (he : ∀ z, (f z).ent = z.ent) (h1 : ∀ z, (f z).inn = z.inn ∧ (f z).ic = z.ic ∧ (f z).out = z.out ∧ (f z).oc = z.oc) (h2 : ∀ z ∈ txs, Grows Rd.cells 8 (f z).reads (f z).rs (f z).rc) (h3 : ∀ z ∈ txs, Grows WrA.cells 3 (f z).writes (f z).ws (f z).wc) : Wf cl (txs.map f) := by
  have hent : (txs.map f).map TM.ent = txs.map TM.ent := by rw [List.map_map]; exact List.map_congr_left fun z _ => he z
  have hn : ∀ z, (f z).n = z.n := fun z => ent_n (he z)
  refine ⟨by rw [map_n hent]; exact h.n, by rw [map_st hent]; exact h.st, ?_, ?_, ?_, ?_, ?_, ?_, ?_, ?_⟩
  · intro y hy
    obtain ⟨z, hz, rfl⟩ := List.mem_map.1 hy
    rw [ent_st (he z)]
    exact h.lt z hz
  · intro y hy
    obtain ⟨z, hz, rfl⟩ := List.mem_map.1 hy
    rw [(h1 z).1, (h1 z).2.1]
    exact h.inn z hz
  · intro y hy
    obtain ⟨z, hz, rfl⟩ := List.mem_map.1 hy
    rw [(h1 z).2.2.1, (h1 z).2.2.2]
    exact h.out z hz
  · intro y hy k hk
    obtain ⟨z, hz, rfl⟩ := List.mem_map.1 hy
    rw [(h1 z).1] at hk
    obtain ⟨q, hq, e1, e2⟩ := h.cin z hz k hk
    exact ⟨f q, List.mem_map_of_mem hq, by rw [hn]; exact e1, by rw [hn, hn]; exact e2⟩
  · intro y hy k hk
    obtain ⟨z, hz, rfl⟩ := List.mem_map.1 hy
    rw [(h1 z).2.2.1] at hk
    obtain ⟨q, hq, e1, e2⟩ := h.cou z hz k hk
    exact ⟨f q, List.mem_map_of_mem hq, by rw [hn]; exact e1, by rw [hn, hn]; exact e2⟩
  · intro y hy y' hy'
    obtain ⟨z, hz, rfl⟩ := List.mem_map.1 hy
    obtain ⟨z', hz', rfl⟩ := List.mem_map.1 hy'
    rw [(h1 z).2.2.1, (h1 z').1, hn, hn]
    exact h.dual z hz z' hz'
  · intro y hy
    obtain ⟨z, hz, rfl⟩ := List.mem_map.1 hy
    exact h2 z hz
  · intro y hy
    obtain ⟨z, hz, rfl⟩ := List.mem_map.1 hy
    exact h3 z hz
def setDone (d : Nat) (z : TM) : TM := { z with done := d }
theorem _root_.Go.Si.Wf.set {cl : Nat} {txs : List TM} (h : Wf cl txs) (k d : Nat) : Wf cl (setTx k (setDone d) txs) :=
  h.map (fun z => if z.n = k then setDone d z else z) (fun z => by split <;> rfl) (fun z => by split <;> exact ⟨rfl, rfl, rfl, rfl⟩) (fun z hz => by split <;> exact h.rs z hz) (fun z hz => by split <;> exact h.ws z hz)
def cmZ (k : Int) (sp : Nat) (txs : List TM) : Nat × List TM × Int :=
  match liveM k txs with
  | none => (sp, txs, 41)
  | some x => if pvM x then (sp, abM k txs, 40) else (sp + 1, fgM true (goneM (setTx x.n (setDone (sp + 1)) txs)) (setTx x.n (setDone (sp + 1)) txs), 0)
theorem c_p_ssi_Set_judge (b ba nx sp cl : Nat) (txs : List TM) (hW : Wf cl txs) (k : Int) : CallL Try.prog f_p_ssi_Set_judge (SL b ba nx sp cl txs) [] [.is (.pointer (some ⟨b, 0, none⟩)), .is (.int .i64 k)] (fun _ : Unit => True) (fun _ => SL b ba nx sp cl (jgT k txs)) (fun _ => .is (.int .i64 (jgE txs))) :=
CallL.of (fn := Try.f39) Try.func39 (n := 28) rfl rfl rfl (fun _ _ => by kernel_rfl) fun E W hb0 => by
  refine J.nodup fun hnd => ?_
  have hst := hW.st
  have hlt := hW.lt
  repeat refine J.seq ?_
  refine J.plain ?_
  refine JO.t (ob_assign rfl) rfl ?_
  refine JO.nil ?_
  repeat (first | refine JX.next ?_ | refine JX.normal_block ?_)
  refine J.sel [0, 1] (.cons rfl (.cons rfl .nil)) ?_
  repeat refine J.seq ?_
  refine J.plain ?_
  refine JO.t (ob_move rfl) rfl ?_
  refine JO.t (ob_nilCheck rfl) rfl ?_
  refine JO.t (ob_fieldAddr fo_ssi_Set_2 rfl) rfl ?_
  refine JO.t (ob_ld1 sz_map_int_p_ssi_tx rfl rfl) rfl ?_
  refine JO.rangeI un_map_int_p_ssi_tx rfl rfl (fun r11 => ?_)
  refine JO.nil ?_
  repeat (first | refine JX.next ?_ | refine JX.normal_block ?_)
  refine J.sel [0, 1, 11] (.cons rfl (.cons rfl (.cons rfl .nil))) ?_
  repeat refine J.seq ?_
  refine J.block ?_
  repeat refine J.seq ?_
  refine J.loopG (α := Array Nat) (fun s => [(0, .is (.pointer (some ⟨b, 0, none⟩))), (1, .is (.int .i64 k)), (11, .is (.pointer (some ⟨r11, 0, none⟩)))]) (fun s => ⟨r11, 0, .ob (.mapIter (some ba) cl s cl)⟩ :: SL b ba nx sp cl txs) (fun s => fun _ => True) (fun s => (lf txs s).any jd1 = jdM txs) (fun s => (lf txs s).length) #[] [0, 1, 11] (.cons rfl (.cons rfl (.cons rfl .nil))) rfl (fun _ => trivial) (by rw [lf_none]; rfl) fun seen hac => ?_
  try dsimp only
  try dsimp only at hac
  repeat refine J.seq ?_
  refine J.plain ?_
  refine JO.next (l := txs.map TM.ent) (cl := cl) rfl (fun o => (by repeat (first | exact .here | apply Upd.there))) (by repeat (first | exact List.mem_cons_self | exact mem_all | apply List.mem_cons_of_mem)) (fun e he => by obtain ⟨y, hy, rfl⟩ := ent_mem he; exact hlt y hy) (Nat.le_refl _) rfl (fun go e seen2 last2 hgo hstop => ?_)
  refine JO.t (ob_nx rfl) rfl ?_
  refine JO.nil ?_
  repeat (first | refine JX.next ?_ | refine JX.normal_block ?_)
  refine J.sel [0, 1, 11, 13] (.cons rfl (.cons rfl (.cons rfl (.cons rfl .nil)))) ?_
  repeat refine J.seq ?_
  refine J.cond rfl (fun ht13 => ?_) (fun ht13 => ?_)
  ·
    try simp only [decide_eq_true_eq, decide_eq_false_iff_not] at ht13
    refine J.skip ?_
    repeat (first | refine JX.next ?_ | refine JX.normal_block ?_)
    repeat refine J.seq ?_
    refine J.block ?_
    obtain ⟨hem, hens, rfl, rfl⟩ := hgo ht13
    obtain ⟨y, hy, rfl⟩ := ent_mem hem
    haveI : HasOwn (SL b ba nx sp cl txs) y.b ty_ssi_tx (.is (.agg y.cs.toArray)) := ⟨mem_b hy⟩
    repeat refine J.seq ?_
    refine J.plain ?_
    refine JO.t (ob_entry rfl (by repeat (first | exact List.mem_cons_self | exact mem_all | apply List.mem_cons_of_mem)) (by repeat (first | exact List.mem_cons_self | exact mem_all | apply List.mem_cons_of_mem)) hem (st_nodup hst)) rfl ?_
    refine JO.t (ob_exI rfl rfl) rfl ?_
    refine JO.t (ob_assign rfl) rfl ?_
    refine JO.nil ?_
    repeat (first | refine JX.next ?_ | refine JX.normal_block ?_)
    refine J.sel [0, 1, 6, 11] (.cons rfl (.cons rfl (.cons rfl (.cons rfl .nil)))) ?_
    repeat refine J.seq ?_
    refine J.reg0 hmx (by kernel_rfl) (by kernel_rfl) ?_
    refine RT.t (ob_move rfl) ?_
    refine RT.t (ob_nilCheck rfl) ?_
    refine RT.t (ob_fieldAddr fo_ssi_tx_1 rfl) ?_
    refine RT.t (ob_ld1 sz_int rfl rfl) ?_
    refine RT.t (ob_gtr rfl rfl) ?_
    refine RT.t (ob_move rfl) ?_
    refine RT.g rfl rfl rfl (fun hg => ob_move (.inl rfl)) ?_
    refine RT.g rfl rfl rfl (fun hg => ob_callB (.inl rfl) (c_p_ssi_tx_pivot y) (tx3_ob _) (fun o ho => List.mem_cons_of_mem _ ((tx3_sub hy).subset ho)) (fun _ _ _ => tx3_nd (.refl _) hy hnd) (fun _ h => by cases h) (.one (.inr ⟨_, rfl, fun h => h⟩) .nil)) ?_
    refine RT.t (ob_pickAnd rfl rfl rfl id) ?_
    refine RT.nil ?_
    refine FinS.nil0 ?_
    repeat (first | refine JX.next ?_ | refine JX.normal_block ?_)
    refine J.sel [0, 1, 11, 24] (.cons rfl (.cons rfl (.cons rfl (.cons rfl .nil)))) ?_
    repeat refine J.seq ?_
    refine J.cond rfl (fun ht24 => ?_) (fun ht24 => ?_)
    ·
      try simp only [decide_eq_true_eq, decide_eq_false_iff_not] at ht24
      repeat refine J.seq ?_
      refine J.plain ?_
      refine JO.t (ob_move rfl) rfl ?_
      refine JO.t (ob_move rfl) rfl ?_
      refine JO.callL (Lr := [⟨r11, 0, .ob (.mapIter (some ba) cl (seen.push y.st) cl)⟩]) (c_p_ssi_Set_Abort b ba nx sp cl txs hW k) (fun d e => by injection e with e; show d < 28; omega) (List.perm_append_singleton _ _).symm (fun _ h => by cases h) (.one rfl (.one rfl .nil)) ?_
      intro _ _
      refine JO.sub (L' := SL b ba nx sp cl (abM k txs)) (List.sublist_append_left _ _) ?_
      refine JO.nil ?_
      repeat (first | refine JX.next ?_ | refine JX.normal_block ?_)
      refine J.sel [] .nil ?_
      repeat refine J.seq ?_
      refine J.plain ?_
      refine JO.t (ob_assign rfl) rfl ?_
      refine JO.nil ?_
      repeat (first | refine JX.next ?_ | refine JX.normal_block ?_)
      refine J.sel [4] (.cons rfl .nil) ?_
      repeat refine J.seq ?_
      refine J.ret ?_
      repeat (first | refine JX.ret_pass ?_ | refine JX.ret_block ?_)
      have hjd : jdM txs = true := by rw [← hac, any_push hst hy hens, show jd1 y = true from ht24, Bool.true_or]
      exact JX.retL1 (Lr := []) (L1 := fun _ : Unit => SL b ba nx sp cl (jgT k txs)) rfl () trivial (by rw [jgT, if_pos hjd, List.append_nil]) SL_out rfl hb0 rfl (Sub.isEq (by rw [jgE, if_pos hjd]))
    ·
      try simp only [decide_eq_true_eq, decide_eq_false_iff_not] at ht24
      refine J.skip ?_
      repeat refine JX.normal_block ?_
      refine JX.roundG (x := seen) (seen.push y.st) ?_ ?_ [0, 1, 11] ?_ ?_ ?_ ?_
      · exact (by rw [← hac, any_push hst hy hens, show jd1 y = false from ht24, Bool.false_or])
      · exact lf_lt hst hy hens
      · exact (.cons rfl (.cons rfl (.cons rfl .nil)))
      · repeat (first | exact .all | exact .nil | refine Has.own (by repeat (first | exact .here | apply Tl.past | apply Tl.there)) ?_ | refine Has.cons (by repeat (first | exact .here | apply Pk.past | apply Pk.there)) ?_)
      · exact fun G hG => by repeat (first | exact hG | refine List.mem_cons_of_mem _ ?_)
      · exact fun _ _ _ => fun _ _ => trivial
  ·
    try simp only [decide_eq_true_eq, decide_eq_false_iff_not] at ht13
    repeat refine J.seq ?_
    refine J.exit ?_
    repeat (first | refine JX.hit ?_ | refine JX.miss rfl ?_ | refine JX.exit_pass ?_)
    repeat (first | refine JX.next ?_ | refine JX.normal_block ?_)
    repeat refine J.seq ?_
    refine J.plain ?_
    refine JO.t (ob_assign rfl) rfl ?_
    refine JO.nil ?_
    repeat (first | refine JX.next ?_ | refine JX.normal_block ?_)
    refine J.sel [4] (.cons rfl .nil) ?_
    repeat refine J.seq ?_
    refine J.ret ?_
    repeat (first | refine JX.ret_pass ?_ | refine JX.ret_block ?_)
    obtain ⟨rfl, rfl, hall⟩ := hstop ht13
    have hjd : jdM txs = false := by rw [← hac, lf_end hall]; rfl
    exact JX.retL1 (Lr := [_]) (L1 := fun _ : Unit => SL b ba nx sp cl (jgT k txs)) rfl () trivial (by rw [jgT, hjd, if_neg (by simp)]; exact (List.perm_append_singleton _ _).symm) SL_out rfl hb0 rfl (Sub.isEq (by rw [jgE, hjd, if_neg (by simp)]))
theorem c_p_ssi_Set_Commit (b ba nx sp cl : Nat) (txs : List TM) (hW : Wf cl txs) (hsp : sp < 4611686018427387904) (k : Int) : CallL Try.prog f_p_ssi_Set_Commit (SL b ba nx sp cl txs) [] [.is (.pointer (some ⟨b, 0, none⟩)), .is (.int .i64 k)] (fun _ : Unit => True) (fun _ => SL b ba nx (cmZ k sp txs).1 cl (cmZ k sp txs).2.1) (fun _ => .is (.int .i64 (cmZ k sp txs).2.2)) :=
CallL.of (fn := Try.f16) Try.func16 (n := 37) rfl rfl rfl (fun _ _ => by kernel_rfl) fun E W hb0 => by
  refine J.nodup fun hnd => ?_
  repeat refine J.seq ?_
  refine J.plain ?_
  refine JO.t (ob_assign rfl) rfl ?_
  refine JO.nil ?_
  repeat (first | refine JX.next ?_ | refine JX.normal_block ?_)
  refine J.sel [0, 1] (.cons rfl (.cons rfl .nil)) ?_
  repeat refine J.seq ?_
  refine J.plain ?_
  refine JO.t (ob_move rfl) rfl ?_
  refine JO.t (ob_move rfl) rfl ?_
  refine JO.t (ob_callB rfl (c_p_ssi_Set_active b ba nx sp cl txs k) SL_ob (fun _ h => h) (fun _ _ _ => hnd) (fun _ h => by cases h) (.one rfl (.one rfl .nil))) rfl ?_
  refine JO.t (ob_move rfl) rfl ?_
  refine JO.t (ob_exI rfl rfl) rfl ?_
  refine JO.t (ob_exI rfl rfl) rfl ?_
  refine JO.t (ob_assign rfl) rfl ?_
  refine JO.t (ob_assign rfl) rfl ?_
  refine JO.nil ?_
  repeat (first | refine JX.next ?_ | refine JX.normal_block ?_)
  refine J.sel [0, 1, 5, 6] (.cons rfl (.cons rfl (.cons rfl (.cons rfl .nil)))) ?_
  repeat refine J.seq ?_
  refine J.plain ?_
  refine JO.t (ob_move rfl) rfl ?_
  refine JO.t (ob_neq rfl rfl) rfl ?_
  refine JO.nil ?_
  repeat (first | refine JX.next ?_ | refine JX.normal_block ?_)
  refine J.sel [0, 1, 5, 6, 14] (.cons rfl (.cons rfl (.cons rfl (.cons rfl (.cons rfl .nil))))) ?_
  repeat refine J.seq ?_
  refine J.cond rfl (fun ht14 => ?_) (fun ht14 => ?_)
  ·
    try simp only [decide_eq_true_eq, decide_eq_false_iff_not] at ht14
    repeat refine J.seq ?_
    refine J.plain ?_
    refine JO.t (ob_move rfl) rfl ?_
    refine JO.t (ob_assign rfl) rfl ?_
    refine JO.nil ?_
    repeat (first | refine JX.next ?_ | refine JX.normal_block ?_)
    refine J.sel [4] (.cons rfl .nil) ?_
    repeat refine J.seq ?_
    refine J.ret ?_
    repeat (first | refine JX.ret_pass ?_ | refine JX.ret_block ?_)
    obtain ⟨hl0, he0⟩ := act_dead ht14
    have hz : cmZ k sp txs = (sp, txs, 41) := by unfold cmZ; rw [hl0]
    exact JX.retL1 (Lr := []) (L1 := fun _ : Unit => SL b ba nx (cmZ k sp txs).1 cl (cmZ k sp txs).2.1) rfl () trivial (by rw [hz, List.append_nil]) SL_out rfl hb0 rfl (Sub.isEq (by rw [hz, he0]; rfl))
  ·
    try simp only [decide_eq_true_eq, decide_eq_false_iff_not] at ht14
    refine J.skip ?_
    repeat (first | refine JX.next ?_ | refine JX.normal_block ?_)
    obtain ⟨x, hx, hxk, hxd, hxa, hxl, hxP⟩ := act_live ht14
    repeat refine J.seq ?_
    refine J.plain ?_
    refine JO.t (ob_move rfl) rfl ?_
    refine JO.t (ob_callB rfl (c_p_ssi_tx_pivot x) (tx3_ob _) (fun o ho => (tx3_sub hx).subset ho) (fun _ _ _ => tx3_nd (.refl _) hx hnd) (fun _ h => by cases h) (.sub rfl (Sub.isEq hxP) .nil)) rfl ?_
    refine JO.nil ?_
    repeat (first | refine JX.next ?_ | refine JX.normal_block ?_)
    refine J.sel [0, 1, 5, 17] (.cons rfl (.cons rfl (.cons rfl (.cons rfl .nil)))) ?_
    repeat refine J.seq ?_
    refine J.cond rfl (fun ht17 => ?_) (fun ht17 => ?_)
    ·
      try simp only [decide_eq_true_eq, decide_eq_false_iff_not] at ht17
      repeat refine J.seq ?_
      refine J.plain ?_
      refine JO.t (ob_move rfl) rfl ?_
      refine JO.t (ob_move rfl) rfl ?_
      refine JO.callL (Lr := []) (c_p_ssi_Set_Abort b ba nx sp cl txs hW k) (fun d e => by injection e with e; show d < 37; omega) (by rw [List.append_nil]) (fun _ h => by cases h) (.one rfl (.one rfl .nil)) ?_
      intro _ _
      rw [List.append_nil]
      refine JO.nil ?_
      repeat (first | refine JX.next ?_ | refine JX.normal_block ?_)
      refine J.sel [] .nil ?_
      repeat refine J.seq ?_
      refine J.plain ?_
      refine JO.t (ob_assign rfl) rfl ?_
      refine JO.nil ?_
      repeat (first | refine JX.next ?_ | refine JX.normal_block ?_)
      refine J.sel [4] (.cons rfl .nil) ?_
      repeat refine J.seq ?_
      refine J.ret ?_
      repeat (first | refine JX.ret_pass ?_ | refine JX.ret_block ?_)
      have hz : cmZ k sp txs = (sp, abM k txs, 40) := by unfold cmZ; rw [hxl]; simp only [ht17, if_true]
      exact JX.retL1 (Lr := []) (L1 := fun _ : Unit => SL b ba nx (cmZ k sp txs).1 cl (cmZ k sp txs).2.1) rfl () trivial (by rw [hz, List.append_nil]) SL_out rfl hb0 rfl (Sub.isEq (by rw [hz]))
    ·
      try simp only [decide_eq_true_eq, decide_eq_false_iff_not] at ht17
      refine J.skip ?_
      repeat (first | refine JX.next ?_ | refine JX.normal_block ?_)
      repeat refine J.seq ?_
      refine J.plain ?_
      refine JO.t (ob_move rfl) rfl ?_
      refine JO.t (ob_nilCheck rfl) rfl ?_
      refine JO.t (ob_fieldAddr fo_ssi_Set_1 rfl) rfl ?_
      refine JO.t (ob_ld1 sz_int rfl rfl) rfl ?_
      refine JO.t (ob_addc (cc := ((sp + 1 : Nat) : Int)) rfl rfl (by omega) (by omega) (by omega)) rfl ?_
      refine JO.t (ob_nilCheck rfl) rfl ?_
      refine JO.t (ob_fieldAddr fo_ssi_Set_1 rfl) rfl ?_
      refine JO.m (obm_storeF (cs' := [_, _, _]) rfl rfl (show Upd (SL b ba nx sp cl txs) _ _ (SL b ba nx (sp + 1) cl txs) from .here) rfl rfl rfl rfl ss_int) (by rfl) ?_
      refine JO.nil ?_
      repeat (first | refine JX.next ?_ | refine JX.normal_block ?_)
      refine J.sel [0, 5] (.cons rfl (.cons rfl .nil)) ?_
      haveI : HasOwn (SL b ba nx (sp + 1) cl txs) x.b ty_ssi_tx (.is (.agg x.cs.toArray)) := ⟨mem_b hx⟩
      repeat refine J.seq ?_
      refine J.plain ?_
      refine JO.t (ob_move rfl) rfl ?_
      refine JO.t (ob_move rfl) rfl ?_
      refine JO.t (ob_nilCheck rfl) rfl ?_
      refine JO.t (ob_fieldAddr fo_ssi_Set_1 rfl) rfl ?_
      refine JO.t (ob_ld1 sz_int rfl rfl) rfl ?_
      refine JO.t (ob_nilCheckV rfl hxP) rfl ?_
      refine JO.t (ob_fieldAddr fo_ssi_tx_1 rfl) rfl ?_
      refine JO.m (obm_storeF (cs' := (setDone (sp + 1) x).cs) rfl rfl (upd_tx (f := setDone (sp + 1)) hW.n hx (fun _ => rfl) .here) rfl rfl rfl rfl ss_int) (Upd.same (upd_tx (f := setDone (sp + 1)) (o := ⟨x.b, ty_ssi_tx, .is (.agg x.cs.toArray)⟩) (o' := ⟨x.b, ty_ssi_tx, .is (.agg (setDone (sp + 1) x).cs.toArray)⟩) hW.n hx (fun _ => rfl) .here) rfl) ?_
      refine JO.nil ?_
      repeat (first | refine JX.next ?_ | refine JX.normal_block ?_)
      refine J.sel [0] (.cons rfl .nil) ?_
      repeat refine J.seq ?_
      refine J.plain ?_
      refine JO.t (ob_move rfl) rfl ?_
      refine JO.callL (Lr := []) (c_p_ssi_Set_forget b ba nx (sp + 1) cl (setTx x.n (setDone (sp + 1)) txs) (hW.set x.n (sp + 1))) (fun d e => by injection e with e; show d < 37; omega) (by rw [List.append_nil]) (fun _ h => by cases h) (.one rfl .nil) ?_
      intro _ _
      rw [List.append_nil]
      refine JO.nil ?_
      repeat (first | refine JX.next ?_ | refine JX.normal_block ?_)
      refine J.sel [] .nil ?_
      repeat refine J.seq ?_
      refine J.plain ?_
      refine JO.t (ob_assign rfl) rfl ?_
      refine JO.nil ?_
      repeat (first | refine JX.next ?_ | refine JX.normal_block ?_)
      refine J.sel [4] (.cons rfl .nil) ?_
      repeat refine J.seq ?_
      refine J.ret ?_
      repeat (first | refine JX.ret_pass ?_ | refine JX.ret_block ?_)
      have hz : cmZ k sp txs = (sp + 1, fgM true (goneM (setTx x.n (setDone (sp + 1)) txs)) (setTx x.n (setDone (sp + 1)) txs), 0) := by unfold cmZ; rw [hxl]; simp only [ht17]; rfl
      exact JX.retL1 (Lr := []) (L1 := fun _ : Unit => SL b ba nx (cmZ k sp txs).1 cl (cmZ k sp txs).2.1) rfl () trivial (by rw [hz, List.append_nil]) SL_out rfl hb0 rfl (Sub.isEq (by rw [hz]))
end Go.Proofs.Ytggmifnkgcladaa
set_option maxRecDepth 20000
namespace Go.Proofs.Ytggmifnkgcladaa
open Go Go.Vc
open Go.Si
theorem ob_cons {o : Own} {L : List Own} (h : (∃ V, o.T = .is V) ∨ ∃ x, o.T = .ob x) (hL : AllOb L) : AllOb (o :: L) := fun m hm => by
  rcases List.mem_cons.1 hm with rfl | hm
  · exact h
  · exact hL m hm
def beM (nx sp cl : Nat) (z : Nat × Nat × Nat) : TM := ⟨nx + 1, cl, z.1, z.2.1, z.2.2, sp + 1, 0, none, 0, [], none, 0, [], [], 0, [], 0, false, false⟩
theorem has_fresh {nx : Nat} {txs : List TM} (h : ∀ y ∈ txs, y.n ≤ nx) : mHas ((nx + 1 : Nat) : Int) (txs.map TM.ent) = false := by
  rw [mHas_false, List.map_map]
  intro hm
  obtain ⟨y, hy, e⟩ := List.mem_map.1 hm
  have e' : (y.n : Int) = ((nx + 1 : Nat) : Int) := e
  have := h y hy
  omega
def txV (sp r q : Nat) : Value := .agg #[.int .i64 ((sp + 1 : Nat) : Int), .int .i64 0, .slice none 0 0, .slice none 0 0, .map (some r), .map (some q), .bool false, .bool false]
theorem txV1 (sp q r n : Nat) : (txV sp r q).cells ≠ Array.replicate n undef := fun h => by
  have h0 := congrArg (fun x : Array Value => x[0]?) h
  have h1 : (txV sp r q).cells[0]? = some (.int .i64 ((sp + 1 : Nat) : Int)) := rfl
  simp only [h1] at h0
  rw [Array.getElem?_replicate] at h0
  split at h0
  · injection h0 with h0; cases h0
  · cases h0
theorem txV2 (sp q r r' : Nat) (h : (txV sp r q).cells = (txV sp r' q).cells) : r = r' := by
  have h0 := congrArg (fun x : Array Value => x[4]?) h
  have h1 : ∀ r, (txV sp r q).cells[4]? = some (.map (some r)) := fun _ => rfl
  simp only [h1] at h0
  injection h0 with h0
  injection h0 with h0
  injection h0
theorem be_perm {b ba nx sp cl : Nat} {txs : List TM} (h : ∀ y ∈ txs, y.n ≤ nx) (z : Nat × Nat × Nat) :
    (SL b ba (nx + 1) (sp + 1) (cl + 1) (txs ++ [beM nx sp cl z])).Perm (⟨z.1, ty_ssi_tx, .is (txV sp z.2.1 z.2.2)⟩ :: ⟨z.2.1, 0, .ob (mObj [] 0)⟩ :: ⟨z.2.2, 0, .ob (mObj [] 0)⟩ :: ⟨b, ty_ssi_Set, .is (setV ba (nx + 1) (sp + 1))⟩ ::
      ⟨ba, 0, .ob (mObj (mPut ((nx + 1 : Nat) : Int) (.pointer (some ⟨z.1, 0, none⟩)) cl (txs.map TM.ent)) (if mHas ((nx + 1 : Nat) : Int) (txs.map TM.ent) then cl else cl + 1))⟩ :: txs.flatMap txL) := by
  rw [has_fresh h, mPut_none (has_fresh h)]
  unfold SL
  rw [List.map_append, List.flatMap_append]
  exact List.perm_append_comm (l₁ := ⟨b, ty_ssi_Set, .is (setV ba (nx + 1) (sp + 1))⟩ :: ⟨ba, 0, .ob (mObj (txs.map TM.ent ++ [(((nx + 1 : Nat) : Int), .pointer (some ⟨z.1, 0, none⟩), cl)]) (cl + 1))⟩ :: txs.flatMap txL) (l₂ := [⟨z.1, ty_ssi_tx, .is (txV sp z.2.1 z.2.2)⟩, ⟨z.2.1, 0, .ob (mObj [] 0)⟩, ⟨z.2.2, 0, .ob (mObj [] 0)⟩])
theorem c_ssi_New  : CallL Try.prog f_ssi_New [] [] [] (fun _ : Nat × Nat => True) (fun z => SL z.1 z.2 0 0 0 []) (fun z => .is (.pointer (some ⟨z.1, 0, none⟩))) :=
CallL.of (fn := Try.f10) Try.func10 (n := 4) rfl rfl rfl (fun _ _ => by kernel_rfl) fun E W hb0 => by
  repeat refine J.seq ?_
  refine J.plain ?_
  refine JO.t (ob_assign rfl) rfl ?_
  refine JO.nil ?_
  repeat (first | refine JX.next ?_ | refine JX.normal_block ?_)
  refine J.sel [] .nil ?_
  repeat refine J.seq ?_
  refine J.plain ?_
  refine JO.mapMk rfl (fun r1 => ?_)
  refine JO.t (ob_build (cs := [_, _, _]) sh_ssi_Set (.cons rfl .nil) rfl rfl) rfl ?_
  refine JO.box rfl rfl fun b3 => ?_
  refine JO.t (ob_assign rfl) rfl ?_
  refine JO.nil ?_
  repeat (first | refine JX.next ?_ | refine JX.normal_block ?_)
  refine J.sel [0] (.cons rfl .nil) ?_
  repeat refine J.seq ?_
  refine J.ret ?_
  repeat (first | refine JX.ret_pass ?_ | refine JX.ret_block ?_)
  exact JX.retL1 (Lr := []) (L1 := fun z : Nat × Nat => SL z.1 z.2 0 0 0 []) (R := fun z => .is (.pointer (some ⟨z.1, 0, none⟩))) rfl (b3, r1) trivial (List.Perm.of_eq (List.append_nil _).symm) SL_out rfl hb0 rfl (Sub.isEq rfl)
theorem c_p_ssi_Set_Begin (b ba nx sp cl : Nat) (txs : List TM) (hn : ∀ y ∈ txs, y.n ≤ nx) (hnx : nx < 4611686018427387904) (hsp : sp < 4611686018427387904) : CallL Try.prog f_p_ssi_Set_Begin (SL b ba nx sp cl txs) [] [.is (.pointer (some ⟨b, 0, none⟩))] (fun _ : Nat × Nat × Nat => True) (fun z => SL b ba (nx + 1) (sp + 1) (cl + 1) (txs ++ [beM nx sp cl z])) (fun _ => .is (.int .i64 ((nx + 1 : Nat) : Int))) :=
CallL.of (fn := Try.f17) Try.func17 (n := 39) rfl rfl rfl (fun _ _ => by kernel_rfl) fun E W hb0 => by
  repeat refine J.seq ?_
  refine J.plain ?_
  refine JO.t (ob_assign rfl) rfl ?_
  refine JO.nil ?_
  repeat (first | refine JX.next ?_ | refine JX.normal_block ?_)
  refine J.sel [0] (.cons rfl .nil) ?_
  repeat refine J.seq ?_
  refine J.plain ?_
  refine JO.t (ob_move rfl) rfl ?_
  refine JO.t (ob_pnil un_p_ssi_Set rfl rfl) rfl ?_
  refine JO.nil ?_
  repeat (first | refine JX.next ?_ | refine JX.normal_block ?_)
  refine J.sel [0, 4] (.cons rfl (.cons rfl .nil)) ?_
  repeat refine J.seq ?_
  refine J.cond rfl (fun ht4 => ?_) (fun ht4 => ?_)
  ·
    try simp only [decide_eq_true_eq, decide_eq_false_iff_not] at ht4
    exfalso
    cases ht4
  ·
    try simp only [decide_eq_true_eq, decide_eq_false_iff_not] at ht4
    refine J.skip ?_
    repeat (first | refine JX.next ?_ | refine JX.normal_block ?_)
    repeat refine J.seq ?_
    refine J.plain ?_
    refine JO.t (ob_move rfl) rfl ?_
    refine JO.t (ob_nilCheck rfl) rfl ?_
    refine JO.t (ob_fieldAddr fo_ssi_Set_0 rfl) rfl ?_
    refine JO.t (ob_ld1 sz_int rfl rfl) rfl ?_
    refine JO.t (ob_addc (cc := ((nx + 1 : Nat) : Int)) rfl rfl (by omega) (by omega) (by omega)) rfl ?_
    refine JO.t (ob_nilCheck rfl) rfl ?_
    refine JO.t (ob_fieldAddr fo_ssi_Set_0 rfl) rfl ?_
    refine JO.m (obm_storeF (cs' := [_, _, _]) rfl rfl (show Upd (SL b ba nx sp cl txs) _ _ (SL b ba (nx + 1) sp cl txs) from .here) rfl rfl rfl rfl ss_int) (by rfl) ?_
    refine JO.nil ?_
    repeat (first | refine JX.next ?_ | refine JX.normal_block ?_)
    refine J.sel [0] (.cons rfl .nil) ?_
    repeat refine J.seq ?_
    refine J.plain ?_
    refine JO.t (ob_move rfl) rfl ?_
    refine JO.t (ob_nilCheck rfl) rfl ?_
    refine JO.t (ob_fieldAddr fo_ssi_Set_1 rfl) rfl ?_
    refine JO.t (ob_ld1 sz_int rfl rfl) rfl ?_
    refine JO.t (ob_addc (cc := ((sp + 1 : Nat) : Int)) rfl rfl (by omega) (by omega) (by omega)) rfl ?_
    refine JO.t (ob_nilCheck rfl) rfl ?_
    refine JO.t (ob_fieldAddr fo_ssi_Set_1 rfl) rfl ?_
    refine JO.m (obm_storeF (cs' := [_, _, _]) rfl rfl (show Upd (SL b ba (nx + 1) sp cl txs) _ _ (SL b ba (nx + 1) (sp + 1) cl txs) from .here) rfl rfl rfl rfl ss_int) (by rfl) ?_
    refine JO.nil ?_
    repeat (first | refine JX.next ?_ | refine JX.normal_block ?_)
    refine J.sel [0] (.cons rfl .nil) ?_
    refine J.mark fun E0 w0 hW0 hM0 => ?_
    repeat refine J.seq ?_
    refine J.regBgm (G := Nat) 13 16 (fun r => .is (.map (some r))) (fun r => ⟨r, 0, .ob (mObj [] 0)⟩ :: SL b ba (nx + 1) (sp + 1) cl txs) (SL b ba (nx + 1) (sp + 1) cl txs) rfl rfl rfl rfl hmx (by kernel_rfl) rfl (by kernel_rfl) (fun _ h => h) (fun g o ho => List.mem_cons_of_mem _ ho) (by kernel_rfl) ?_
    refine RT.t (ob_move rfl) ?_
    refine RT.t (ob_nilCheck rfl) ?_
    refine RT.t (ob_fieldAddr fo_ssi_Set_2 rfl) ?_
    refine RT.t (ob_ld1 sz_map_int_p_ssi_tx rfl rfl) ?_
    refine RT.t (ob_move rfl) ?_
    refine RT.t (ob_nilCheck rfl) ?_
    refine RT.t (ob_fieldAddr fo_ssi_Set_0 rfl) ?_
    refine RT.t (ob_ld1 sz_int rfl rfl) ?_
    refine RT.t (ob_move rfl) ?_
    refine RT.t (ob_nilCheck rfl) ?_
    refine RT.t (ob_fieldAddr fo_ssi_Set_1 rfl) ?_
    refine RT.t (ob_ld1 sz_int rfl rfl) ?_
    refine RT.t (ob_mapNew (N := w0.heap.size) List.mem_cons_self) ?_
    refine RT.bigg (Lq := SL b ba (nx + 1) (sp + 1) cl txs) big_mapMk (fun r32 => ?_)
    refine RT.t (ob_withMap (x := .tmp 31) (V := fun r => txV sp r r32) rfl (by simp [Op.operands]) (fun r => ob_build (cs := [_, _, _, _, _, _, _, _]) sh_ssi_tx (.cons (.inl rfl) (.cons (.inr ⟨rfl, rfl⟩) (.cons (.inl rfl) .nil))) rfl rfl)) ?_
    refine RT.t (ob_boxM (V := fun r => txV sp r r32) List.mem_cons_self rfl) ?_
    refine RT.nil ?_
    refine JO.claimBM (s := 34) (Φ0 := []) hW0 (fun _ h => by cases h) rfl (Sel.look (ss := [0, 22, 26]) (.cons rfl (.cons rfl (.cons rfl .nil)))) rfl (ob_cons (.inr ⟨_, rfl⟩) SL_ob) (List.mem_cons_of_mem _ List.mem_cons_self) (txV1 sp r32) (txV2 sp r32) (fun b34 r31 => ?_)
    refine JO.m (obm_mset (cl := cl) un_map_int_p_ssi_tx un_int rfl rfl rfl (.there (.there (.there (.there .here))))) (Upd.same (o := ⟨ba, 0, .ob (mObj (txs.map TM.ent) cl)⟩) (.there (.there (.there (.there .here)))) rfl) ?_
    refine JO.subL (L' := SL b ba (nx + 1) (sp + 1) (cl + 1) (txs ++ [beM nx sp cl (b34, r31, r32)])) (be_perm hn (b34, r31, r32)) ?_
    refine JO.nil ?_
    repeat (first | refine JX.next ?_ | refine JX.normal_block ?_)
    refine J.sel [0] (.cons rfl .nil) ?_
    repeat refine J.seq ?_
    refine J.plain ?_
    refine JO.t (ob_move rfl) rfl ?_
    refine JO.t (ob_nilCheck rfl) rfl ?_
    refine JO.t (ob_fieldAddr fo_ssi_Set_0 rfl) rfl ?_
    refine JO.t (ob_ld1 sz_int rfl rfl) rfl ?_
    refine JO.t (ob_assign rfl) rfl ?_
    refine JO.nil ?_
    repeat (first | refine JX.next ?_ | refine JX.normal_block ?_)
    refine J.sel [2] (.cons rfl .nil) ?_
    repeat refine J.seq ?_
    refine J.ret ?_
    repeat (first | refine JX.ret_pass ?_ | refine JX.ret_block ?_)
    exact JX.retL1 (Lr := []) (L1 := fun z : Nat × Nat × Nat => SL b ba (nx + 1) (sp + 1) (cl + 1) (txs ++ [beM nx sp cl z])) (R := fun _ => .is (.int .i64 ((nx + 1 : Nat) : Int))) rfl (b34, r31, r32) trivial (List.Perm.of_eq (List.append_nil _).symm) SL_out rfl hb0 rfl (Sub.isEq rfl)
end Go.Proofs.Ytggmifnkgcladaa
set_option maxRecDepth 20000
namespace Go.Proofs.Ytggmifnkgcladaa
open Go Go.Vc
open Go.Si
def idxF {α : Type} (p : α → Bool) (xs : List α) : Int := match xs.findIdx? p with | some i => (i : Nat) | none => -1
theorem idx_step {α : Type} {p : α → Bool} {xs : List α} {i : Nat} {v : α} (hi : xs[i]? = some v) (h0 : ∀ j w, j < i → xs[j]? = some w → p w = false) (hp : p v = true) : idxF p xs = (i : Nat) := by
  unfold idxF
  have hil : i < xs.length := (List.getElem?_eq_some_iff.1 hi).1
  have : xs.findIdx? p = some i := by
    rw [List.findIdx?_eq_some_iff_getElem]
    refine ⟨hil, ?_, fun j hj => ?_⟩
    · rw [List.getElem?_eq_getElem hil] at hi
      injection hi with hi
      rw [hi]; exact hp
    · have := h0 j xs[j] hj (List.getElem?_eq_getElem (by omega))
      simp [this]
  rw [this]
theorem idx_none {α : Type} {p : α → Bool} {xs : List α} (h0 : ∀ j w, j < xs.length → xs[j]? = some w → p w = false) : idxF p xs = -1 := by
  unfold idxF
  have : xs.findIdx? p = none := by
    rw [List.findIdx?_eq_none_iff]
    intro x hx
    obtain ⟨j, hj, rfl⟩ := List.getElem_of_mem hx
    exact h0 j _ hj (List.getElem?_eq_getElem hj)
  rw [this]
theorem idx_any {α : Type} (p : α → Bool) (xs : List α) : decide ((0 : Int) ≤ idxF p xs) = xs.any p := by
  unfold idxF
  cases h : xs.findIdx? p with
  | none =>
    rw [List.findIdx?_eq_none_iff] at h
    have : xs.any p = false := by
      rw [List.any_eq_false]
      intro x hx
      rw [h x hx]; simp
    rw [this]; rfl
  | some i =>
    rw [List.findIdx?_eq_some_iff_getElem] at h
    obtain ⟨hi, hp, _⟩ := h
    have : xs.any p = true := List.any_eq_true.2 ⟨_, List.getElem_mem hi, hp⟩
    rw [this]
    simp
def wrV (w : WrA) : Value := .agg w.cells.toArray
abbrev rdA (r : Rd) : Value := .agg (Rd.cells r).toArray
theorem c_slices_IndexFunc_sl_api_Read_api_Read {rs : Option (Nat × List Value)} {rc : Nat} {xs : List Rd} (hG : Grows Rd.cells 8 xs rs rc) (hl : xs.length ≤ 4611686018427387904) (f : FuncId) (cp : List Value) (Lc : List Own) (hLc : AllOb Lc) (Φc : List (World → Prop)) (p : Rd → Bool) (hf : ∀ k ∈ xs, CallL Try.prog f Lc Φc ([.is (rdA k)] ++ cp.map Ty.is) (fun _ : Unit => True) (fun _ => Lc) (fun _ => .is (.bool (p k)))) : CallL Try.prog f_slices_IndexFunc_sl_api_Read_api_Read (ownO rs ty_api_Read Lc) Φc [.is (sliceO rs xs.length rc), .is (.func (.func f) #[] cp.toArray)] (fun _ : Unit => True) (fun _ => ownO rs ty_api_Read Lc) (fun _ => .is (.int .i64 (idxF p xs))) :=
CallL.of (fn := Try.f53) Try.func53 (n := 19) rfl rfl rfl (fun _ _ => by kernel_rfl) fun E W hb0 => by
  refine J.nodup fun hnd => ?_
  have hob : AllOb (ownO rs ty_api_Read Lc) := ownO_ob _ _ hLc
  repeat refine J.seq ?_
  refine J.plain ?_
  refine JO.t (ob_assign rfl) rfl ?_
  refine JO.nil ?_
  repeat (first | refine JX.next ?_ | refine JX.normal_block ?_)
  refine J.sel [0, 1] (.cons rfl (.cons rfl .nil)) ?_
  repeat refine J.seq ?_
  refine J.plain ?_
  refine JO.t (ob_move rfl) rfl ?_
  refine JO.t (ob_lenO un_sl_api_Read rfl (grows_none hG)) rfl ?_
  refine JO.t (ob_move rfl) rfl ?_
  refine JO.nil ?_
  repeat (first | refine JX.next ?_ | refine JX.normal_block ?_)
  refine J.sel [0, 1, 7, 8] (.cons rfl (.cons rfl (.cons rfl (.cons rfl .nil)))) ?_
  repeat refine J.seq ?_
  refine J.block ?_
  repeat refine J.seq ?_
  refine J.loopF (α := Nat) (fun i => [(0, .is (sliceO rs xs.length rc)), (1, .is (.func (.func f) #[] cp.toArray)), (7, .is (.int .i64 (xs.length : Nat))), (8, .is (.int .i64 (i : Nat)))]) (fun i => i ≤ xs.length ∧ ∀ j w, j < i → xs[j]? = some w → p w = false) (fun i => xs.length - i) 0 [0, 1, 7, 8] (.cons rfl (.cons rfl (.cons rfl (.cons rfl .nil)))) ⟨Nat.zero_le _, fun j w hj => absurd hj (Nat.not_lt_zero _)⟩ fun i ⟨hi, h0⟩ => ?_
  repeat refine J.seq ?_
  refine J.plain ?_
  refine JO.t (ob_lss rfl rfl) rfl ?_
  refine JO.nil ?_
  repeat (first | refine JX.next ?_ | refine JX.normal_block ?_)
  refine J.sel [0, 1, 7, 8, 9] (.cons rfl (.cons rfl (.cons rfl (.cons rfl (.cons rfl .nil))))) ?_
  repeat refine J.seq ?_
  refine J.cond rfl (fun ht9 => ?_) (fun ht9 => ?_)
  ·
    try simp only [decide_eq_true_eq, decide_eq_false_iff_not] at ht9
    refine J.skip ?_
    repeat (first | refine JX.next ?_ | refine JX.normal_block ?_)
    repeat refine J.seq ?_
    refine J.block ?_
    repeat refine J.seq ?_
    refine J.plain ?_
    refine JO.t (ob_move rfl) rfl ?_
    refine JO.t (ob_assign rfl) rfl ?_
    refine JO.nil ?_
    repeat (first | refine JX.next ?_ | refine JX.normal_block ?_)
    refine J.sel [0, 1, 5, 7, 8] (.cons rfl (.cons rfl (.cons rfl (.cons rfl (.cons rfl .nil))))) ?_
    have hil : i < xs.length := by omega
    obtain ⟨v, hv⟩ : ∃ v, xs[i]? = some v := ⟨xs[i], List.getElem?_eq_getElem hil⟩
    obtain ⟨b9, cs9, rfl⟩ := grows_some hG (by omega)
    repeat refine J.seq ?_
    refine J.plain ?_
    refine JO.t (ob_move rfl) rfl ?_
    refine JO.t (ob_move rfl) rfl ?_
    refine JO.t (ob_move rfl) rfl ?_
    refine JO.t (ob_indexAddr el_sl_api_Read rfl rfl rfl (by omega) (by omega)) rfl ?_
    refine JO.t (ob_ldGr Rd.len sz_api_Read rfl List.mem_cons_self hG hv (by simp)) rfl ?_
    refine JO.t (ob_callBv rfl (hf v (List.mem_of_getElem? hv)) hLc (fun o ho => List.mem_cons_of_mem _ ho) (fun _ _ _ => (((List.sublist_cons_self _ _).map _).nodup hnd)) (fun _ h => h) (.one rfl .nil)) rfl ?_
    refine JO.nil ?_
    repeat (first | refine JX.next ?_ | refine JX.normal_block ?_)
    refine J.sel [0, 1, 5, 7, 8, 16] (.cons rfl (.cons rfl (.cons rfl (.cons rfl (.cons rfl (.cons rfl .nil)))))) ?_
    repeat refine J.seq ?_
    refine J.cond rfl (fun ht16 => ?_) (fun ht16 => ?_)
    ·
      try simp only [decide_eq_true_eq, decide_eq_false_iff_not] at ht16
      repeat refine J.seq ?_
      refine J.plain ?_
      refine JO.t (ob_move rfl) rfl ?_
      refine JO.t (ob_assign rfl) rfl ?_
      refine JO.nil ?_
      repeat (first | refine JX.next ?_ | refine JX.normal_block ?_)
      refine J.sel [4] (.cons rfl .nil) ?_
      repeat refine J.seq ?_
      refine J.ret ?_
      repeat (first | refine JX.ret_pass ?_ | refine JX.ret_block ?_)
      exact JX.retL1 (Lr := []) (L1 := fun _ : Unit => ownO (some (b9, cs9)) ty_api_Read Lc) rfl () trivial (List.Perm.of_eq (List.append_nil _).symm) (ob_out hob) rfl hb0 rfl (Sub.isEq (by rw [idx_step hv h0 ht16]))
    ·
      try simp only [decide_eq_true_eq, decide_eq_false_iff_not] at ht16
      refine J.skip ?_
      repeat (first | refine JX.next ?_ | refine JX.normal_block ?_)
      repeat refine J.seq ?_
      refine J.plain ?_
      refine JO.t (ob_addc (cc := ((i + 1 : Nat) : Int)) rfl rfl (by omega) (by omega) (by omega)) rfl ?_
      refine JO.t (ob_move rfl) rfl ?_
      refine JO.nil ?_
      repeat refine JX.normal_block ?_
      refine JX.roundS (i + 1) ?_ ?_ [0, 1, 7, 8] ?_ ?_ ?_
      · exact ⟨by omega, fun j w hj hw => by
              rcases Nat.lt_or_ge j i with h | h
              · exact h0 j w h hw
              · have : j = i := by omega
                subst this
                rw [hv] at hw; injection hw with hw; subst hw; exact ht16⟩
      · exact (by omega)
      · exact (.cons rfl (.cons rfl (.cons rfl (.cons rfl .nil))))
      · repeat (first | exact .slnil | exact List.Sublist.refl _ | apply List.Sublist.cons_cons | apply List.Sublist.cons)
      · repeat (first | exact .slnil | exact List.Sublist.refl _ | apply List.Sublist.cons_cons | apply List.Sublist.cons)
  ·
    try simp only [decide_eq_true_eq, decide_eq_false_iff_not] at ht9
    repeat refine J.seq ?_
    refine J.exit ?_
    repeat (first | refine JX.hit ?_ | refine JX.miss rfl ?_ | refine JX.exit_pass ?_)
    repeat (first | refine JX.next ?_ | refine JX.normal_block ?_)
    repeat refine J.seq ?_
    refine J.plain ?_
    refine JO.t (ob_assign rfl) rfl ?_
    refine JO.nil ?_
    repeat (first | refine JX.next ?_ | refine JX.normal_block ?_)
    refine J.sel [4] (.cons rfl .nil) ?_
    repeat refine J.seq ?_
    refine J.ret ?_
    repeat (first | refine JX.ret_pass ?_ | refine JX.ret_block ?_)
    exact JX.retL1 (Lr := []) (L1 := fun _ : Unit => ownO rs ty_api_Read Lc) rfl () trivial (List.Perm.of_eq (List.append_nil _).symm) (ob_out hob) rfl hb0 rfl (Sub.isEq (by rw [idx_none (fun j w hj hw => h0 j w (by omega) hw)]))
theorem c_slices_ContainsFunc_sl_api_Read_api_Read {rs : Option (Nat × List Value)} {rc : Nat} {xs : List Rd} (hG : Grows Rd.cells 8 xs rs rc) (hl : xs.length ≤ 4611686018427387904) (f : FuncId) (cp : List Value) (Lc : List Own) (hLc : AllOb Lc) (Φc : List (World → Prop)) (p : Rd → Bool) (hf : ∀ k ∈ xs, CallL Try.prog f Lc Φc ([.is (rdA k)] ++ cp.map Ty.is) (fun _ : Unit => True) (fun _ => Lc) (fun _ => .is (.bool (p k)))) : CallL Try.prog f_slices_ContainsFunc_sl_api_Read_api_Read (ownO rs ty_api_Read Lc) Φc [.is (sliceO rs xs.length rc), .is (.func (.func f) #[] cp.toArray)] (fun _ : Unit => True) (fun _ => ownO rs ty_api_Read Lc) (fun _ => .is (.bool (xs.any p))) :=
CallL.of (fn := Try.f42) Try.func42 (n := 9) rfl rfl rfl (fun _ _ => by kernel_rfl) fun E W hb0 => by
  refine J.nodup fun hnd => ?_
  have hob : AllOb (ownO rs ty_api_Read Lc) := ownO_ob _ _ hLc
  repeat refine J.seq ?_
  refine J.plain ?_
  refine JO.t (ob_assign rfl) rfl ?_
  refine JO.nil ?_
  repeat (first | refine JX.next ?_ | refine JX.normal_block ?_)
  refine J.sel [0, 1] (.cons rfl (.cons rfl .nil)) ?_
  repeat refine J.seq ?_
  refine J.plain ?_
  refine JO.t (ob_move rfl) rfl ?_
  refine JO.t (ob_move rfl) rfl ?_
  refine JO.t (ob_callB rfl (c_slices_IndexFunc_sl_api_Read_api_Read hG hl f cp Lc hLc Φc p hf) hob (fun _ h => h) (fun _ _ _ => hnd) (fun _ h => h) (.one rfl (.one rfl .nil))) rfl ?_
  refine JO.t (ob_geq rfl rfl) rfl ?_
  refine JO.t (ob_assign rfl) rfl ?_
  refine JO.nil ?_
  repeat (first | refine JX.next ?_ | refine JX.normal_block ?_)
  refine J.sel [4] (.cons rfl .nil) ?_
  repeat refine J.seq ?_
  refine J.ret ?_
  repeat (first | refine JX.ret_pass ?_ | refine JX.ret_block ?_)
  exact JX.retL1 (Lr := []) (L1 := fun _ : Unit => ownO rs ty_api_Read Lc) rfl () trivial (List.Perm.of_eq (List.append_nil _).symm) (ob_out hob) rfl hb0 rfl (Sub.isEq (by rw [idx_any]))
theorem c_slices_IndexFunc_sl_api_Write_api_Write {rs : Option (Nat × List Value)} {rc : Nat} {xs : List WrA} (hG : Grows WrA.cells 3 xs rs rc) (hl : xs.length ≤ 4611686018427387904) (f : FuncId) (cp : List Value) (Lc : List Own) (hLc : AllOb Lc) (Φc : List (World → Prop)) (p : WrA → Bool) (hf : ∀ k ∈ xs, CallL Try.prog f Lc Φc ([.is (wrV k)] ++ cp.map Ty.is) (fun _ : Unit => True) (fun _ => Lc) (fun _ => .is (.bool (p k)))) : CallL Try.prog f_slices_IndexFunc_sl_api_Write_api_Write (ownO rs ty_api_Write Lc) Φc [.is (sliceO rs xs.length rc), .is (.func (.func f) #[] cp.toArray)] (fun _ : Unit => True) (fun _ => ownO rs ty_api_Write Lc) (fun _ => .is (.int .i64 (idxF p xs))) :=
CallL.of (fn := Try.f51) Try.func51 (n := 19) rfl rfl rfl (fun _ _ => by kernel_rfl) fun E W hb0 => by
  refine J.nodup fun hnd => ?_
  have hob : AllOb (ownO rs ty_api_Write Lc) := ownO_ob _ _ hLc
  repeat refine J.seq ?_
  refine J.plain ?_
  refine JO.t (ob_assign rfl) rfl ?_
  refine JO.nil ?_
  repeat (first | refine JX.next ?_ | refine JX.normal_block ?_)
  refine J.sel [0, 1] (.cons rfl (.cons rfl .nil)) ?_
  repeat refine J.seq ?_
  refine J.plain ?_
  refine JO.t (ob_move rfl) rfl ?_
  refine JO.t (ob_lenO un_sl_api_Write rfl (grows_none hG)) rfl ?_
  refine JO.t (ob_move rfl) rfl ?_
  refine JO.nil ?_
  repeat (first | refine JX.next ?_ | refine JX.normal_block ?_)
  refine J.sel [0, 1, 7, 8] (.cons rfl (.cons rfl (.cons rfl (.cons rfl .nil)))) ?_
  repeat refine J.seq ?_
  refine J.block ?_
  repeat refine J.seq ?_
  refine J.loopF (α := Nat) (fun i => [(0, .is (sliceO rs xs.length rc)), (1, .is (.func (.func f) #[] cp.toArray)), (7, .is (.int .i64 (xs.length : Nat))), (8, .is (.int .i64 (i : Nat)))]) (fun i => i ≤ xs.length ∧ ∀ j w, j < i → xs[j]? = some w → p w = false) (fun i => xs.length - i) 0 [0, 1, 7, 8] (.cons rfl (.cons rfl (.cons rfl (.cons rfl .nil)))) ⟨Nat.zero_le _, fun j w hj => absurd hj (Nat.not_lt_zero _)⟩ fun i ⟨hi, h0⟩ => ?_
  repeat refine J.seq ?_
  refine J.plain ?_
  refine JO.t (ob_lss rfl rfl) rfl ?_
  refine JO.nil ?_
  repeat (first | refine JX.next ?_ | refine JX.normal_block ?_)
  refine J.sel [0, 1, 7, 8, 9] (.cons rfl (.cons rfl (.cons rfl (.cons rfl (.cons rfl .nil))))) ?_
  repeat refine J.seq ?_
  refine J.cond rfl (fun ht9 => ?_) (fun ht9 => ?_)
  ·
    try simp only [decide_eq_true_eq, decide_eq_false_iff_not] at ht9
    refine J.skip ?_
    repeat (first | refine JX.next ?_ | refine JX.normal_block ?_)
    repeat refine J.seq ?_
    refine J.block ?_
    repeat refine J.seq ?_
    refine J.plain ?_
    refine JO.t (ob_move rfl) rfl ?_
    refine JO.t (ob_assign rfl) rfl ?_
    refine JO.nil ?_
    repeat (first | refine JX.next ?_ | refine JX.normal_block ?_)
    refine J.sel [0, 1, 5, 7, 8] (.cons rfl (.cons rfl (.cons rfl (.cons rfl (.cons rfl .nil))))) ?_
    have hil : i < xs.length := by omega
    obtain ⟨v, hv⟩ : ∃ v, xs[i]? = some v := ⟨xs[i], List.getElem?_eq_getElem hil⟩
    obtain ⟨b9, cs9, rfl⟩ := grows_some hG (by omega)
    repeat refine J.seq ?_
    refine J.plain ?_
    refine JO.t (ob_move rfl) rfl ?_
    refine JO.t (ob_move rfl) rfl ?_
    refine JO.t (ob_move rfl) rfl ?_
    refine JO.t (ob_indexAddr el_sl_api_Write rfl rfl rfl (by omega) (by omega)) rfl ?_
    refine JO.t (ob_ldGr WrA.len sz_api_Write rfl List.mem_cons_self hG hv (by simp)) rfl ?_
    refine JO.t (ob_callBv rfl (hf v (List.mem_of_getElem? hv)) hLc (fun o ho => List.mem_cons_of_mem _ ho) (fun _ _ _ => (((List.sublist_cons_self _ _).map _).nodup hnd)) (fun _ h => h) (.one rfl .nil)) rfl ?_
    refine JO.nil ?_
    repeat (first | refine JX.next ?_ | refine JX.normal_block ?_)
    refine J.sel [0, 1, 5, 7, 8, 16] (.cons rfl (.cons rfl (.cons rfl (.cons rfl (.cons rfl (.cons rfl .nil)))))) ?_
    repeat refine J.seq ?_
    refine J.cond rfl (fun ht16 => ?_) (fun ht16 => ?_)
    ·
      try simp only [decide_eq_true_eq, decide_eq_false_iff_not] at ht16
      repeat refine J.seq ?_
      refine J.plain ?_
      refine JO.t (ob_move rfl) rfl ?_
      refine JO.t (ob_assign rfl) rfl ?_
      refine JO.nil ?_
      repeat (first | refine JX.next ?_ | refine JX.normal_block ?_)
      refine J.sel [4] (.cons rfl .nil) ?_
      repeat refine J.seq ?_
      refine J.ret ?_
      repeat (first | refine JX.ret_pass ?_ | refine JX.ret_block ?_)
      exact JX.retL1 (Lr := []) (L1 := fun _ : Unit => ownO (some (b9, cs9)) ty_api_Write Lc) rfl () trivial (List.Perm.of_eq (List.append_nil _).symm) (ob_out hob) rfl hb0 rfl (Sub.isEq (by rw [idx_step hv h0 ht16]))
    ·
      try simp only [decide_eq_true_eq, decide_eq_false_iff_not] at ht16
      refine J.skip ?_
      repeat (first | refine JX.next ?_ | refine JX.normal_block ?_)
      repeat refine J.seq ?_
      refine J.plain ?_
      refine JO.t (ob_addc (cc := ((i + 1 : Nat) : Int)) rfl rfl (by omega) (by omega) (by omega)) rfl ?_
      refine JO.t (ob_move rfl) rfl ?_
      refine JO.nil ?_
      repeat refine JX.normal_block ?_
      refine JX.roundS (i + 1) ?_ ?_ [0, 1, 7, 8] ?_ ?_ ?_
      · exact ⟨by omega, fun j w hj hw => by
              rcases Nat.lt_or_ge j i with h | h
              · exact h0 j w h hw
              · have : j = i := by omega
                subst this
                rw [hv] at hw; injection hw with hw; subst hw; exact ht16⟩
      · exact (by omega)
      · exact (.cons rfl (.cons rfl (.cons rfl (.cons rfl .nil))))
      · repeat (first | exact .slnil | exact List.Sublist.refl _ | apply List.Sublist.cons_cons | apply List.Sublist.cons)
      · repeat (first | exact .slnil | exact List.Sublist.refl _ | apply List.Sublist.cons_cons | apply List.Sublist.cons)
  ·
    try simp only [decide_eq_true_eq, decide_eq_false_iff_not] at ht9
    repeat refine J.seq ?_
    refine J.exit ?_
    repeat (first | refine JX.hit ?_ | refine JX.miss rfl ?_ | refine JX.exit_pass ?_)
    repeat (first | refine JX.next ?_ | refine JX.normal_block ?_)
    repeat refine J.seq ?_
    refine J.plain ?_
    refine JO.t (ob_assign rfl) rfl ?_
    refine JO.nil ?_
    repeat (first | refine JX.next ?_ | refine JX.normal_block ?_)
    refine J.sel [4] (.cons rfl .nil) ?_
    repeat refine J.seq ?_
    refine J.ret ?_
    repeat (first | refine JX.ret_pass ?_ | refine JX.ret_block ?_)
    exact JX.retL1 (Lr := []) (L1 := fun _ : Unit => ownO rs ty_api_Write Lc) rfl () trivial (List.Perm.of_eq (List.append_nil _).symm) (ob_out hob) rfl hb0 rfl (Sub.isEq (by rw [idx_none (fun j w hj hw => h0 j w (by omega) hw)]))
theorem c_slices_ContainsFunc_sl_api_Write_api_Write {rs : Option (Nat × List Value)} {rc : Nat} {xs : List WrA} (hG : Grows WrA.cells 3 xs rs rc) (hl : xs.length ≤ 4611686018427387904) (f : FuncId) (cp : List Value) (Lc : List Own) (hLc : AllOb Lc) (Φc : List (World → Prop)) (p : WrA → Bool) (hf : ∀ k ∈ xs, CallL Try.prog f Lc Φc ([.is (wrV k)] ++ cp.map Ty.is) (fun _ : Unit => True) (fun _ => Lc) (fun _ => .is (.bool (p k)))) : CallL Try.prog f_slices_ContainsFunc_sl_api_Write_api_Write (ownO rs ty_api_Write Lc) Φc [.is (sliceO rs xs.length rc), .is (.func (.func f) #[] cp.toArray)] (fun _ : Unit => True) (fun _ => ownO rs ty_api_Write Lc) (fun _ => .is (.bool (xs.any p))) :=
CallL.of (fn := Try.f35) Try.func35 (n := 9) rfl rfl rfl (fun _ _ => by kernel_rfl) fun E W hb0 => by
  refine J.nodup fun hnd => ?_
  have hob : AllOb (ownO rs ty_api_Write Lc) := ownO_ob _ _ hLc
  repeat refine J.seq ?_
  refine J.plain ?_
  refine JO.t (ob_assign rfl) rfl ?_
  refine JO.nil ?_
  repeat (first | refine JX.next ?_ | refine JX.normal_block ?_)
  refine J.sel [0, 1] (.cons rfl (.cons rfl .nil)) ?_
  repeat refine J.seq ?_
  refine J.plain ?_
  refine JO.t (ob_move rfl) rfl ?_
  refine JO.t (ob_move rfl) rfl ?_
  refine JO.t (ob_callB rfl (c_slices_IndexFunc_sl_api_Write_api_Write hG hl f cp Lc hLc Φc p hf) hob (fun _ h => h) (fun _ _ _ => hnd) (fun _ h => h) (.one rfl (.one rfl .nil))) rfl ?_
  refine JO.t (ob_geq rfl rfl) rfl ?_
  refine JO.t (ob_assign rfl) rfl ?_
  refine JO.nil ?_
  repeat (first | refine JX.next ?_ | refine JX.normal_block ?_)
  refine J.sel [4] (.cons rfl .nil) ?_
  repeat refine J.seq ?_
  refine J.ret ?_
  repeat (first | refine JX.ret_pass ?_ | refine JX.ret_block ?_)
  exact JX.retL1 (Lr := []) (L1 := fun _ : Unit => ownO rs ty_api_Write Lc) rfl () trivial (List.Perm.of_eq (List.append_nil _).symm) (ob_out hob) rfl hb0 rfl (Sub.isEq (by rw [idx_any]))
end Go.Proofs.Ytggmifnkgcladaa
