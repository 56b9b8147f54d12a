/- Values that are handed in stay; what is answered is new memory: what the statement does. No condition. -/
import Derived.Test.YtlccnpmhmdoapaaDoorXW0
import Derived.Test.YtlccnpmhmdoapaaDoorXG
import Derived.Test.YtlccnpmhmdoapaaDoorXG4
set_option maxRecDepth 20000
namespace Go.Proofs.YtlccnpmhmdoapaaDoor
open Go Go.Vc
open Go.Vl
def GrL (sz : Nat) (st : Option (Nat × List Value)) (n cap : Nat) : Prop := match st with | none => n = 0 | some (_, cs) => cs.length = cap * sz ∧ n ≤ cap
theorem grL_of {α : Type} {en : α → List Value} {sz : Nat} {xs : List α} {st : Option (Nat × List Value)} {cap n : Nat} (h : Grows en sz xs st cap) (hn : xs.length = n) : GrL sz st n cap := by
  cases st with
  | none =>
    have h : xs = [] := h
    subst h
    exact hn.symm
  | some p => exact ⟨h.1, hn ▸ h.2.1⟩
section
variable {P : Program} {c : Ctx} {K : List (Nat × Ty)} {L : List Own} {Φ : List (World → Prop)} {Q : Exit → Act → World → Prop}
theorem JO.apL {ops : Array Oper} {rest : List Oper} {L' : List Own} {d : Nat} {ty t tx e : TypeId} {pos : String} {after : Array Edge} {s x : Operand} {bytes cap n k sz : Nat} {news : List Value} {st : Option (Nat × List Value)} {TX : Ty} {C : Option (Nat × List Value) → List Own}
    (hT : ApTy P t e sz bytes) (hC : Cx e L st C L') (hG : GrL sz st n cap) (h0 : opTy K s = some (.is (sliceO st n cap))) (hx : opTy K x = some TX) (hS : ∀ L, SrcOf P L Φ sz tx TX k news) (hk : k ≠ 0) (hfit : (n + k) * bytes ≤ 140737488355328) (h63 : n + k ≤ 9223372036854775807) (hd : Nat.blt d c.n = true)
    (hn : ∀ (p : Nat × List Value) (cap' : Nat), JO P c ((d, .is (sliceO (some p) (n + k) cap')) :: K) (C (some p)) Φ ops rest Q) :
    JO P c K L Φ ops (⟨some d, .call { callee := .builtin .append, args := #[s, x], argTypes := #[t, tx] }, ty, pos, after, none⟩ :: rest) Q := by
  refine JO.subL hC.tl.perm ?_
  cases st with
  | none =>
    have h : n = 0 := hG
    subst h
    rw [Nat.zero_add] at hfit h63
    refine JO.ap0 hT h0 (fun E v w h => ⟨none, h⟩) hx (hS _) hfit h63 hd (fun h => absurd h hk) fun _ b' cap' cs' _ _ _ => ?_
    have h4 := JO.subL (hC.back (some (b', cs'))) (hn (b', cs') cap')
    simpa [sliceO, ownO] using h4
  | some p =>
    obtain ⟨b, cs⟩ := p
    obtain ⟨h1, h2⟩ := hG
    refine JO.ap hT h0 hx (hS _) h1 h2 hfit h63 hd fun b' cap' cs' _ _ _ => ?_
    have h4 := JO.subL (hC.back (some (b', cs'))) (hn (b', cs') cap')
    simpa [sliceO, ownO] using h4
end
theorem grL_sl {sz n cap : Nat} {st : Option (Nat × List Value)} (h : GrL sz st n cap) : sliceO st n cap = .slice (adO st) n (capO st cap) := by
  cases st with
  | none =>
    have h : n = 0 := h
    subst h
    rfl
  | some p => rfl
theorem int_b (x : UInt8) : ∃ k m, (bC x)[0]? = some (.int k m) := ⟨_, _, rfl⟩
theorem int_v (x : V3) : ∃ k m, (V3.cells x)[0]? = some (.int k m) := ⟨_, _, rfl⟩
theorem keeps_bad {vs : List V3} (h : ((!sameV vs vs) || ((77 : Int) != 77)) = true) : False := by rw [sameV_self] at h; cases h
theorem c_get_atW (N : Nat) {l : List UInt8} {r : List V3 × Int} (h : getL l = r) : CallTy Tryd.prog f_value_Get [.rep (NSl N bC 1 l)] (.tup2 (.rep (SlW N ty_api_Value V3.cells 3 r.1)) (.is (.int .i64 r.2))) := h ▸ c_value_GetW N l
theorem own_out2 (st : Option (Nat × List Value)) (e : TypeId) (b : Nat) (cs : List Value) (e' : TypeId) : (⟨b, e', .is (.agg cs.toArray)⟩ :: ownO st e [] : List Own).all (fun o => o.T.out) = true := by cases st <;> rfl
theorem own_is (st : Option (Nat × List Value)) (e : TypeId) : (ownO st e []).all (fun o => o.T.isIs) = true := by cases st <;> rfl
theorem own_is2 (st st' : Option (Nat × List Value)) (e e' : TypeId) : (ownO st e (ownO st' e' [])).all (fun o => o.T.isIs) = true := by cases st <;> cases st' <;> rfl
theorem c_law01_ValueKeeps (vs : List V3) (hr : ∀ v ∈ vs, I64 v.n) (hl : vs.length ≤ 1048576) : CallF Tryd.prog f_law01_ValueKeeps [GF, TF] [.rep (SlG V3.cells 3 vs)] (.is (.bool true)) :=
CallF.of (fn := Tryd.f10) Tryd.func10 (n := 92) rfl rfl rfl (fun _ _ => by kernel_rfl) fun E W => by
  refine J.openSl (s := 0) rfl (fun a nl cl ql ol hll hal => ?_)
  subst hll
  repeat refine J.seq ?_
  refine J.plain ?_
  refine JO.t (ob_assign rfl) rfl ?_
  refine JO.nil ?_
  repeat (first | refine JX.next ?_ | refine JX.normal_block ?_)
  refine J.sel [0] (.cons rfl .nil) ?_
  repeat refine J.seq ?_
  refine J.plain ?_
  refine JO.t (ob_callF rfl (c_law01_awake) (by simp) .nil) rfl ?_
  refine JO.t (ob_not rfl) rfl ?_
  refine JO.nil ?_
  repeat (first | refine JX.next ?_ | refine JX.normal_block ?_)
  refine J.sel [0, 14] (.cons rfl (.cons rfl .nil)) ?_
  repeat refine J.seq ?_
  refine J.cond rfl (fun ht14 => ?_) (fun ht14 => ?_)
  ·
    try simp only [decide_eq_true_eq, decide_eq_false_iff_not] at ht14
    repeat refine J.seq ?_
    refine J.plain ?_
    refine JO.t (ob_assign rfl) rfl ?_
    refine JO.nil ?_
    repeat (first | refine JX.next ?_ | refine JX.normal_block ?_)
    refine J.sel [2] (.cons rfl .nil) ?_
    repeat refine J.seq ?_
    refine J.ret ?_
    repeat (first | refine JX.ret_pass ?_ | refine JX.ret_block ?_)
    exact JX.ret1is rfl rfl (by simp at ht14)
  ·
    try simp only [decide_eq_true_eq, decide_eq_false_iff_not] at ht14
    refine J.skip ?_
    repeat (first | refine JX.next ?_ | refine JX.normal_block ?_)
    repeat refine J.seq ?_
    refine J.plain ?_
    refine JO.buildOwn0 sl_sl_api_Value rfl (fun b15 => ?_)
    refine JO.t (ob_move rfl) rfl ?_
    refine JO.apS (vs) ap_sl_api_Value (by repeat (first | exact .here | apply Cx.past | apply Cx.there)) (xs := []) (en := V3.cells) ⟨rfl, Nat.le_refl _, rfl⟩ rfl rfl (fun L => src_slF v3_len (by omega) v3_one un_sl_api_Value (by repeat (first | exact List.mem_cons_self | apply List.mem_cons_of_mem))) (by simp; omega) (by simp; omega) rfl (fun p1 cp1 hG1 => ?_)
    try dsimp only
    rw [List.nil_append] at hG1 ⊢
    refine JO.t (ob_build (cs := [_, _, _]) sh_api_Value (.cons rfl .nil) rfl rfl) rfl ?_
    refine JO.t (ob_buildSlice (cs := [_, _, _]) sl_sl_api_Value (by omega) (by omega) (.cons rfl .nil) rfl rfl rfl) rfl ?_
    refine JO.apS ([(⟨0, 77, e0⟩ : V3)]) ap_sl_api_Value (by repeat (first | exact .here | apply Cx.past | apply Cx.there)) hG1 rfl rfl (fun L => src_new un_sl_api_Value rfl rfl) (by simp; omega) (by simp; omega) rfl (fun p2 cp2 hG2 => ?_)
    try dsimp only
    refine JO.t (ob_assign rfl) rfl ?_
    refine JO.nil ?_
    repeat (first | refine JX.next ?_ | refine JX.normal_block ?_)
    refine J.sel [0, 3] (.cons rfl (.cons rfl .nil)) ?_
    have hlen2 : (vs ++ [(⟨0, 77, e0⟩ : V3)]).length = vs.length + 1 := by simp
    have hcp2 := hG2.2.1
    refine J.freezeO v3_len hG2 (e := ty_api_Value) (by repeat (first | exact .here | apply Tl.past | apply Tl.there)) (fun _ h => h) rfl rfl ?_
    obtain ⟨b2, cs2⟩ := p2
    dsimp only [sliceO, adO]
    refine J.fact (RowG V3.cells 3 vs (some ⟨b2, 0, none⟩) vs.length) (fun E w hF _ => fun w1 hk => by have h := rowG_take (n := vs.length) (hF (RowG V3.cells 3 (vs ++ [(⟨0, 77, e0⟩ : V3)]) (some ⟨b2, 0, none⟩) (vs ++ [(⟨0, 77, e0⟩ : V3)]).length) (by repeat (first | exact List.mem_cons_self | apply List.mem_cons_of_mem)) w1 hk) (by omega); rwa [List.take_left] at h) ?_
    refine J.mark (fun E1 w1 hW1 hP1 => ?_)
    repeat refine J.seq ?_
    refine J.plain ?_
    refine JO.t (ob_move rfl) rfl ?_
    refine JO.t (ob_move rfl) rfl ?_
    refine JO.t (ob_len un_sl_api_Value rfl) rfl ?_
    refine JO.t (ob_sliceHi un_sl_api_Value el_sl_api_Value rfl rfl (by omega) (by omega)) rfl ?_
    refine JO.t (ob_call rfl (c_value_PutW w1.heap.size vs hr) (.sub rfl (Sub.nsl (Sub.slFactC (by repeat (first | exact List.mem_cons_self | apply List.mem_cons_of_mem)) (by omega)) (by repeat (first | exact List.mem_cons_self | apply List.mem_cons_of_mem))) .nil)) rfl ?_
    refine JO.t (ob_move rfl) rfl ?_
    refine JO.t (ob_extract0 rfl) rfl ?_
    refine JO.t (ob_extract1 rfl) rfl ?_
    refine JO.t (ob_assign rfl) rfl ?_
    refine JO.t (ob_assign rfl) rfl ?_
    refine JO.nil ?_
    repeat (first | refine JX.next ?_ | refine JX.normal_block ?_)
    refine J.sel [0, 3, 4, 5] (.cons rfl (.cons rfl (.cons rfl (.cons rfl .nil)))) ?_
    repeat refine J.seq ?_
    refine J.reg0 hmx (by kernel_rfl) (by kernel_rfl) ?_
    refine RT.t (ob_move rfl) ?_
    refine RT.t (ob_move rfl) ?_
    refine RT.t (ob_len un_sl_api_Value rfl) ?_
    refine RT.t (ob_sliceHi un_sl_api_Value el_sl_api_Value rfl rfl (by omega) (by omega)) ?_
    refine RT.t (ob_move rfl) ?_
    refine RT.t (ob_call rfl (c_ref01_Same vs vs (by omega)) (.sub rfl (Sub.slFact (by repeat (first | exact List.mem_cons_self | apply List.mem_cons_of_mem))) (.sub rfl (Sub.slFact (by repeat (first | exact List.mem_cons_self | apply List.mem_cons_of_mem))) .nil))) ?_
    refine RT.t (ob_not rfl) ?_
    refine RT.t (ob_move rfl) ?_
    refine RT.g rfl rfl rfl (fun hg => ob_move (.inl rfl)) ?_
    refine RT.g rfl rfl rfl (fun hg => ob_move (.inl rfl)) ?_
    refine RT.g rfl rfl rfl (fun hg => ob_len un_sl_api_Value (.inr ⟨_, rfl, fun h => h⟩)) ?_
    refine RT.g rfl rfl rfl (fun hg => ob_indexAddr el_sl_api_Value (.inr ⟨_, rfl, fun h => h⟩) rfl (.inr ⟨_, rfl, fun h => h⟩) (by omega) (by omega)) ?_
    refine RT.g rfl rfl rfl (fun hg => ob_fieldAddr fo_api_Value_1 (.inr ⟨_, rfl, fun h => h⟩)) ?_
    refine RT.g rfl rfl rfl (fun hg => ob_loadG1 (enc := V3.cells) (sz := 3) (len := (vs ++ [(⟨0, 77, e0⟩ : V3)]).length) (i := vs.length) (j := 1) (xs := vs ++ [(⟨0, 77, e0⟩ : V3)]) (y := (⟨0, 77, e0⟩ : V3)) (a := some ⟨b2, 0, none⟩) sz_int64 (.inr ⟨_, rfl, fun h => h⟩) (by repeat (first | exact List.mem_cons_self | apply List.mem_cons_of_mem)) rfl (by simp) (by omega) rfl) ?_
    refine RT.g rfl rfl rfl (fun hg => ob_neq (.inr ⟨_, rfl, fun h => h⟩) (.inl rfl)) ?_
    refine RT.t (ob_pickOr rfl rfl rfl id) ?_
    refine RT.nil ?_
    refine FinS.nil0 ?_
    repeat (first | refine JX.next ?_ | refine JX.normal_block ?_)
    refine J.sel [0, 4, 5, 44] (.cons rfl (.cons rfl (.cons rfl (.cons rfl .nil)))) ?_
    repeat refine J.seq ?_
    refine J.cond rfl (fun ht44 => ?_) (fun ht44 => ?_)
    ·
      try simp only [decide_eq_true_eq, decide_eq_false_iff_not] at ht44
      repeat refine J.seq ?_
      refine J.plain ?_
      refine JO.t (ob_assign rfl) rfl ?_
      refine JO.nil ?_
      repeat (first | refine JX.next ?_ | refine JX.normal_block ?_)
      refine J.sel [2] (.cons rfl .nil) ?_
      repeat refine J.seq ?_
      refine J.ret ?_
      repeat (first | refine JX.ret_pass ?_ | refine JX.ret_block ?_)
      exact JX.ret1is rfl rfl (by exact (keeps_bad ht44).elim)
    ·
      try simp only [decide_eq_true_eq, decide_eq_false_iff_not] at ht44
      refine J.skip ?_
      repeat (first | refine JX.next ?_ | refine JX.normal_block ?_)
      repeat refine J.seq ?_
      refine J.plain ?_
      refine JO.t (ob_move rfl) rfl ?_
      refine JO.t (ob_neq rfl rfl) rfl ?_
      refine JO.nil ?_
      repeat (first | refine JX.next ?_ | refine JX.normal_block ?_)
      refine J.sel [0, 4, 46] (.cons rfl (.cons rfl (.cons rfl .nil))) ?_
      repeat refine J.seq ?_
      refine J.cond rfl (fun ht46 => ?_) (fun ht46 => ?_)
      ·
        try simp only [decide_eq_true_eq, decide_eq_false_iff_not] at ht46
        repeat refine J.seq ?_
        refine J.plain ?_
        refine JO.t (ob_assign rfl) rfl ?_
        refine JO.nil ?_
        repeat (first | refine JX.next ?_ | refine JX.normal_block ?_)
        refine J.sel [2] (.cons rfl .nil) ?_
        repeat refine J.seq ?_
        refine J.ret ?_
        repeat (first | refine JX.ret_pass ?_ | refine JX.ret_block ?_)
        exact JX.ret1is rfl rfl (by rfl)
      ·
        try simp only [decide_eq_true_eq, decide_eq_false_iff_not] at ht46
        refine J.skip ?_
        repeat (first | refine JX.next ?_ | refine JX.normal_block ?_)
        have hok : (putLs vs).2 = 0 := by simpa using ht46
        have hq := putLs_ok hok
        have hpl := put_len hok
        have hbne : (putLs vs).1.length ≠ 0 := by rw [hq.2.2]; simp
        refine J.openSlW (s := 4) rfl (fun ab nb cb qb ob hlb hab hcb h0b => ?_)
        subst hlb
        refine J.mark (fun E2 w2 hW2 hP2 => ?_)
        repeat refine J.seq ?_
        refine J.plain ?_
        refine JO.t (ob_move rfl) rfl ?_
        refine JO.t (ob_call rfl (c_get_atW w2.heap.size (back_get hok hr)) (.sub rfl (Sub.nsl (Sub.slFactC (by repeat (first | exact List.mem_cons_self | apply List.mem_cons_of_mem)) hcb) (by repeat (first | exact List.mem_cons_self | apply List.mem_cons_of_mem))) .nil)) rfl ?_
        refine JO.t (ob_move rfl) rfl ?_
        refine JO.t (ob_extract0 rfl) rfl ?_
        refine JO.t (ob_extract1 rfl) rfl ?_
        refine JO.t (ob_assign rfl) rfl ?_
        refine JO.t (ob_assign rfl) rfl ?_
        refine JO.nil ?_
        repeat (first | refine JX.next ?_ | refine JX.normal_block ?_)
        refine J.sel [0, 4, 6] (.cons rfl (.cons rfl (.cons rfl .nil))) ?_
        refine J.openSlW (s := 6) rfl (fun am nm cm qm om hlm ham hcm h0m => ?_)
        subst hlm
        refine J.mark (fun E3 w3 hW3 hP3 => ?_)
        repeat refine J.seq ?_
        refine J.plain ?_
        refine JO.t (ob_move rfl) rfl ?_
        refine JO.t (ob_call rfl (c_get_atW w3.heap.size (back_get hok hr)) (.sub rfl (Sub.nsl (Sub.slFactC (by repeat (first | exact List.mem_cons_self | apply List.mem_cons_of_mem)) hcb) (by repeat (first | exact List.mem_cons_self | apply List.mem_cons_of_mem))) .nil)) rfl ?_
        refine JO.t (ob_move rfl) rfl ?_
        refine JO.t (ob_extract0 rfl) rfl ?_
        refine JO.t (ob_extract1 rfl) rfl ?_
        refine JO.t (ob_assign rfl) rfl ?_
        refine JO.t (ob_assign rfl) rfl ?_
        refine JO.nil ?_
        repeat (first | refine JX.next ?_ | refine JX.normal_block ?_)
        refine J.sel [0, 4, 6, 8] (.cons rfl (.cons rfl (.cons rfl (.cons rfl .nil)))) ?_
        refine J.openSlW (s := 8) rfl (fun an nn cn qn on hln han hcn h0n => ?_)
        subst hln
        refine J.sel [0, 4, 6, 8] (.cons rfl (.cons rfl (.cons rfl (.cons rfl .nil)))) ?_
        refine J.claimW (en := V3.cells) (sz := 3) (xs := vs) (L' := []) v3_len (by omega) int_v hcn h0n rfl hW3 hP3 (fun _ _ h => h) rfl (by repeat (first | exact .all | exact .nil | refine Has.own (by repeat (first | exact .here | apply Tl.past | apply Tl.there)) ?_ | refine Has.cons (by repeat (first | exact .here | apply Pk.past | apply Pk.there)) ?_)) rfl (by repeat (first | exact List.mem_cons_self | apply List.mem_cons_of_mem)) (by repeat (first | exact List.mem_cons_self | apply List.mem_cons_of_mem)) (by repeat (first | exact List.mem_cons_self | apply List.mem_cons_of_mem)) (fun stn hGn hsn => ?_)
        refine J.claimW (en := V3.cells) (sz := 3) (xs := vs) (L' := ownO stn ty_api_Value []) v3_len (by omega) int_v hcm h0m rfl hW2 hP2 (fun _ _ h => h) rfl (by repeat (first | exact .all | exact .nil | refine Has.own (by repeat (first | exact .here | apply Tl.past | apply Tl.there)) ?_ | refine Has.cons (by repeat (first | exact .here | apply Pk.past | apply Pk.there)) ?_)) (own_is _ _) (by repeat (first | exact List.mem_cons_self | apply List.mem_cons_of_mem)) (by repeat (first | exact List.mem_cons_self | apply List.mem_cons_of_mem)) (by repeat (first | exact List.mem_cons_self | apply List.mem_cons_of_mem)) (fun stm hGm hsm => ?_)
        refine J.claimW (en := bC) (sz := 1) (xs := (putLs vs).1) (L' := ownO stm ty_api_Value (ownO stn ty_api_Value [])) bC_len (by omega) int_b hcb h0b rfl hW1 hP1 (fun _ _ h => h) rfl (by repeat (first | exact .all | exact .nil | refine Has.own (by repeat (first | exact .here | apply Tl.past | apply Tl.there)) ?_ | refine Has.cons (by repeat (first | exact .here | apply Pk.past | apply Pk.there)) ?_)) (own_is2 _ _ _ _) (by repeat (first | exact List.mem_cons_self | apply List.mem_cons_of_mem)) (by repeat (first | exact List.mem_cons_self | apply List.mem_cons_of_mem)) (by repeat (first | exact List.mem_cons_self | apply List.mem_cons_of_mem)) (fun stb hGb hsb => ?_)
        rcases stb with _ | ⟨bb, csb⟩
        · exact absurd (congrArg List.length (show (putLs vs).1 = [] from hGb)) (by simpa using hbne)
        dsimp only [sliceO, ownO] at hsb ⊢
        rw [hsb, hsm]
        repeat refine J.seq ?_
        refine J.plain ?_
        refine JO.t (ob_assign rfl) rfl ?_
        refine JO.nil ?_
        repeat (first | refine JX.next ?_ | refine JX.normal_block ?_)
        refine J.sel [0, 4, 6, 8, 10] (.cons rfl (.cons rfl (.cons rfl (.cons rfl (.cons rfl .nil))))) ?_
        repeat refine J.seq ?_
        refine J.block ?_
        repeat refine J.seq ?_
        refine J.loopG (α := Nat × List Value) (fun z => [(0, .is (.slice a vs.length cl)), (4, .is (.slice (some ⟨bb, 0, none⟩) (putLs vs).1.length cb)), (6, .is (sliceO stm vs.length cm)), (8, .is (.slice an vs.length cn)), (10, .is (.int .i64 (z.1 : Nat)))]) (fun z => ⟨bb, ty_uint8, .is (.agg z.2.toArray)⟩ :: ownO stm ty_api_Value (ownO stn ty_api_Value [])) (fun z => fun _ => True) (fun z => z.1 ≤ (putLs vs).1.length ∧ z.2.length = cb) (fun z => (putLs vs).1.length - z.1) (0, csb) [0, 4, 6, 8, 10] (.cons rfl (.cons rfl (.cons rfl (.cons rfl (.cons rfl .nil))))) rfl (fun _ => trivial) ⟨Nat.zero_le _, by have := hGb.1; simpa using this⟩ fun ⟨i, cs0⟩ ⟨hi, hcs⟩ => ?_
        try dsimp only
        try dsimp only at cs0
        try dsimp only at hi
        try dsimp only at hcs
        repeat refine J.seq ?_
        refine J.plain ?_
        refine JO.t (ob_move rfl) rfl ?_
        refine JO.t (ob_move rfl) rfl ?_
        refine JO.t (ob_len un_sl_uint8 rfl) rfl ?_
        refine JO.t (ob_lss rfl rfl) rfl ?_
        refine JO.nil ?_
        repeat (first | refine JX.next ?_ | refine JX.normal_block ?_)
        refine J.sel [0, 4, 6, 8, 10, 60] (.cons rfl (.cons rfl (.cons rfl (.cons rfl (.cons rfl (.cons rfl .nil)))))) ?_
        repeat refine J.seq ?_
        refine J.cond rfl (fun ht60 => ?_) (fun ht60 => ?_)
        ·
          try simp only [decide_eq_true_eq, decide_eq_false_iff_not] at ht60
          refine J.skip ?_
          repeat (first | refine JX.next ?_ | refine JX.normal_block ?_)
          repeat refine J.seq ?_
          refine J.block ?_
          repeat refine J.seq ?_
          refine J.plain ?_
          refine JO.t (ob_move rfl) rfl ?_
          refine JO.t (ob_move rfl) rfl ?_
          refine JO.t (ob_indexAddr el_sl_uint8 rfl rfl rfl (by omega) (by omega)) rfl ?_
          refine JO.m (obm_storeF (cs := cs0) (cs' := splice cs0 (0 + ((i : Nat) : Int).toNat * 1) [.int .u8 238]) (n := 1) rfl rfl (by repeat (first | exact .here | apply Upd.there)) rfl rfl rfl (Nat.ble_eq_true_of_le (by omega)) ss_uint8) (by rfl) ?_
          refine JO.nil ?_
          repeat (first | refine JX.next ?_ | refine JX.normal_block ?_)
          refine J.sel [0, 4, 6, 8, 10] (.cons rfl (.cons rfl (.cons rfl (.cons rfl (.cons rfl .nil))))) ?_
          repeat refine J.seq ?_
          refine J.plain ?_
          refine JO.t (ob_move rfl) rfl ?_
          refine JO.t (ob_addc (cc := ((i + 1 : Nat) : Int)) rfl rfl (by omega) (by omega) (by omega)) rfl ?_
          refine JO.t (ob_assign rfl) rfl ?_
          refine JO.nil ?_
          repeat refine JX.normal_block ?_
          refine JX.roundG (x := ⟨i, cs0⟩) (i + 1, splice cs0 (0 + ((i : Nat) : Int).toNat * 1) [.int .u8 238]) ?_ ?_ [0, 4, 6, 8, 10] ?_ ?_ ?_ ?_
          · exact ⟨by dsimp only; omega, by dsimp only; rw [splice_len (by simp; omega)]; exact hcs⟩
          · exact (by simp only; omega)
          · exact (.cons rfl (.cons rfl (.cons rfl (.cons rfl (.cons rfl .nil)))))
          · repeat (first | exact .all | exact .nil | refine Has.own (by repeat (first | exact .here | apply Tl.past | apply Tl.there)) ?_ | refine Has.cons (by repeat (first | exact .here | apply Pk.past | apply Pk.there)) ?_)
          · exact fun G hG => by repeat (first | exact hG | refine List.mem_cons_of_mem _ ?_)
          · exact fun _ _ _ => fun _ _ => trivial
        ·
          try simp only [decide_eq_true_eq, decide_eq_false_iff_not] at ht60
          repeat refine J.seq ?_
          refine J.exit ?_
          repeat (first | refine JX.hit ?_ | refine JX.miss rfl ?_ | refine JX.exit_pass ?_)
          repeat (first | refine JX.next ?_ | refine JX.normal_block ?_)
          repeat refine J.seq ?_
          refine J.plain ?_
          refine JO.t (ob_assign rfl) rfl ?_
          refine JO.nil ?_
          repeat (first | refine JX.next ?_ | refine JX.normal_block ?_)
          refine J.sel [0, 6, 8, 11] (.cons rfl (.cons rfl (.cons rfl (.cons rfl .nil)))) ?_
          repeat refine J.seq ?_
          refine J.block ?_
          repeat refine J.seq ?_
          refine J.loopG (α := Nat × Option (Nat × List Value)) (fun z => [(0, .is (.slice a vs.length cl)), (6, .is (sliceO z.2 vs.length cm)), (8, .is (.slice an vs.length cn)), (11, .is (.int .i64 (z.1 : Nat)))]) (fun z => ⟨bb, ty_uint8, .is (.agg cs0.toArray)⟩ :: ownO z.2 ty_api_Value (ownO stn ty_api_Value [])) (fun z => fun _ => True) (fun z => z.1 ≤ vs.length ∧ GrL 3 z.2 vs.length cm) (fun z => vs.length - z.1) (0, stm) [0, 6, 8, 11] (.cons rfl (.cons rfl (.cons rfl (.cons rfl .nil)))) rfl (fun _ => trivial) ⟨Nat.zero_le _, grL_of hGm rfl⟩ fun ⟨i, st⟩ ⟨hi, hG⟩ => ?_
          try dsimp only
          try dsimp only at st
          try dsimp only at hi
          try dsimp only at hG
          refine J.coer (s := 6) (T' := .is (.slice (adO st) vs.length (capO st cm))) rfl (Sub.isEq (grL_sl hG)) ?_
          repeat refine J.seq ?_
          refine J.plain ?_
          refine JO.t (ob_move rfl) rfl ?_
          refine JO.t (ob_move rfl) rfl ?_
          refine JO.t (ob_len un_sl_api_Value rfl) rfl ?_
          refine JO.t (ob_lss rfl rfl) rfl ?_
          refine JO.nil ?_
          repeat (first | refine JX.next ?_ | refine JX.normal_block ?_)
          refine J.sel [0, 6, 8, 11, 69] (.cons rfl (.cons rfl (.cons rfl (.cons rfl (.cons rfl .nil))))) ?_
          repeat refine J.seq ?_
          refine J.cond rfl (fun ht69 => ?_) (fun ht69 => ?_)
          ·
            try simp only [decide_eq_true_eq, decide_eq_false_iff_not] at ht69
            refine J.skip ?_
            repeat (first | refine JX.next ?_ | refine JX.normal_block ?_)
            repeat refine J.seq ?_
            refine J.block ?_
            rcases st with _ | ⟨bm, cs1⟩
            · exact absurd (show vs.length = 0 from hG) (by omega)
            dsimp only [sliceO, ownO, adO, capO]
            repeat refine J.seq ?_
            refine J.plain ?_
            refine JO.t (ob_move rfl) rfl ?_
            refine JO.t (ob_move rfl) rfl ?_
            refine JO.t (ob_build (cs := [_, _, _]) sh_api_Value (.cons rfl .nil) rfl rfl) rfl ?_
            refine JO.t (ob_indexAddr el_sl_api_Value rfl rfl rfl (by omega) (by omega)) rfl ?_
            refine JO.m (obm_storeF (cs := cs1) (cs' := splice cs1 (0 + ((i : Nat) : Int).toNat * 3) [.int .i64 0, .int .i64 5, .string e0]) (n := 3) rfl rfl (by repeat (first | exact .here | apply Upd.there)) rfl rfl rfl (Nat.ble_eq_true_of_le (by have := hG.1; have := hG.2; omega)) ss_api_Value) (by rfl) ?_
            refine JO.nil ?_
            repeat (first | refine JX.next ?_ | refine JX.normal_block ?_)
            refine J.sel [0, 6, 8, 11] (.cons rfl (.cons rfl (.cons rfl (.cons rfl .nil)))) ?_
            repeat refine J.seq ?_
            refine J.plain ?_
            refine JO.t (ob_move rfl) rfl ?_
            refine JO.t (ob_addc (cc := ((i + 1 : Nat) : Int)) rfl rfl (by omega) (by omega) (by omega)) rfl ?_
            refine JO.t (ob_assign rfl) rfl ?_
            refine JO.nil ?_
            repeat refine JX.normal_block ?_
            refine JX.roundG (x := (i, some (bm, cs1))) (i + 1, some (bm, splice cs1 (0 + ((i : Nat) : Int).toNat * 3) [.int .i64 0, .int .i64 5, .string e0])) ?_ ?_ [0, 6, 8, 11] ?_ ?_ ?_ ?_
            · exact ⟨by dsimp only; omega, by show (splice _ _ _).length = _ ∧ _; rw [splice_len (by have := hG.1; have := hG.2; simp; omega)]; exact hG⟩
            · exact (by simp only; omega)
            · exact (.cons rfl (.cons rfl (.cons rfl (.cons rfl .nil))))
            · repeat (first | exact .all | exact .nil | refine Has.own (by repeat (first | exact .here | apply Tl.past | apply Tl.there)) ?_ | refine Has.cons (by repeat (first | exact .here | apply Pk.past | apply Pk.there)) ?_)
            · exact fun G hG => by repeat (first | exact hG | refine List.mem_cons_of_mem _ ?_)
            · exact fun _ _ _ => fun _ _ => trivial
          ·
            try simp only [decide_eq_true_eq, decide_eq_false_iff_not] at ht69
            repeat refine J.seq ?_
            refine J.exit ?_
            repeat (first | refine JX.hit ?_ | refine JX.miss rfl ?_ | refine JX.exit_pass ?_)
            repeat (first | refine JX.next ?_ | refine JX.normal_block ?_)
            refine J.coer (s := 6) (T' := .is (sliceO st vs.length cm)) rfl (Sub.isEq (grL_sl hG).symm) ?_
            repeat refine J.seq ?_
            refine J.plain ?_
            refine JO.t (ob_move rfl) rfl ?_
            refine JO.t (ob_build (cs := [_, _, _]) sh_api_Value .nil rfl rfl) rfl ?_
            refine JO.t (ob_build (cs := [_, _, _]) sh_api_Value .nil rfl rfl) rfl ?_
            refine JO.t (ob_buildSlice (cs := [_, _, _, _, _, _]) sl_sl_api_Value (by omega) (by omega) (.cons rfl (.cons rfl .nil)) rfl rfl rfl) rfl ?_
            refine JO.apL (sz := 3) (n := vs.length) (k := 2) ap_sl_api_Value (by repeat (first | exact .here | apply Cx.past | apply Cx.there)) hG rfl rfl (fun L => src_new un_sl_api_Value rfl rfl) (by omega) (by omega) (by omega) rfl (fun p9 cp9 => ?_)
            obtain ⟨b9, cs9⟩ := p9
            dsimp only [sliceO]
            refine JO.t (ob_assign rfl) rfl ?_
            refine JO.nil ?_
            repeat (first | refine JX.next ?_ | refine JX.normal_block ?_)
            refine J.sel [0, 8, 12] (.cons rfl (.cons rfl (.cons rfl .nil))) ?_
            refine J.freezeO v3_len hGn (e := ty_api_Value) (L' := ⟨bb, ty_uint8, .is (.agg cs0.toArray)⟩ :: ownO (some (b9, cs9)) ty_api_Value []) (by repeat (first | exact .here | apply Tl.past | apply Tl.there)) (fun _ h => h) rfl (own_out2 _ _ _ _ _) ?_
            obtain ⟨cpn, hcpn, hadn⟩ := sliceO_adC hGn
            have hae := hsn.trans hadn
            injection hae with hae1 hae2 hae3
            subst hae1
            repeat refine J.seq ?_
            refine J.reg0 hmx (by kernel_rfl) (by kernel_rfl) ?_
            refine RT.t (ob_move rfl) ?_
            refine RT.t (ob_len un_sl_api_Value rfl) ?_
            refine RT.t (ob_move rfl) ?_
            refine RT.t (ob_len un_sl_api_Value rfl) ?_
            refine RT.t (ob_addc (cc := ((vs.length + 2 : Nat) : Int)) rfl rfl (by omega) (by omega) (by omega)) ?_
            refine RT.t (ob_eql rfl rfl) ?_
            refine RT.t (ob_move rfl) ?_
            refine RT.g rfl rfl rfl (fun hg => ob_move (.inl rfl)) ?_
            refine RT.g rfl rfl rfl (fun hg => ob_move (.inl rfl)) ?_
            refine RT.g rfl rfl rfl (fun hg => ob_call (.inl rfl) (c_ref01_Same vs vs (by omega)) (.sub (.inr ⟨_, rfl, fun h => h⟩) (Sub.slFact (by repeat (first | exact List.mem_cons_self | apply List.mem_cons_of_mem))) (.sub (.inr ⟨_, rfl, fun h => h⟩) (Sub.slFact (by repeat (first | exact List.mem_cons_self | apply List.mem_cons_of_mem))) .nil))) ?_
            refine RT.t (ob_pickAnd rfl rfl rfl id) ?_
            refine RT.t (ob_assign rfl) ?_
            refine RT.nil ?_
            refine FinS.nil0 ?_
            repeat (first | refine JX.next ?_ | refine JX.normal_block ?_)
            refine J.sel [2] (.cons rfl .nil) ?_
            repeat refine J.seq ?_
            refine J.ret ?_
            repeat (first | refine JX.ret_pass ?_ | refine JX.ret_block ?_)
            exact JX.ret1is rfl rfl (by rw [sameV_self]; simp)
end Go.Proofs.YtlccnpmhmdoapaaDoor
