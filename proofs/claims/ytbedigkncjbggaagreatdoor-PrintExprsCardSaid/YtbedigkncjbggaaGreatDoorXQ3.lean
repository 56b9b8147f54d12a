/- The scanner: classes of bytes, spaces, runs. No condition. -/
import Derived.Test.YtbedigkncjbggaaGreatDoorXQ2
import Derived.Test.YtbedigkncjbggaaGreatDoorXG3
import Derived.Test.YtbedigkncjbggaaGreatDoorXQ1
set_option maxRecDepth 20000
namespace Go.Proofs.YtbedigkncjbggaaGreatDoor
open Go Go.Vc
abbrev AB : UInt8 → Ty := fun b => .is (.int .u8 b.toNat)
abbrev RBB (p : UInt8 → Bool) : UInt8 → Ty := fun b => .is (.bool (p b))
abbrev TT : World → Prop := fun _ => True
theorem Z7b {a b : Bool} (h : (a && b) = true) : a = true ∧ b = true := by simpa using h
theorem Z6S (c : Int) : CallTy Tryz.prog Zda [.is (.int .u8 c)] (.is (.bool (letterF c))) :=
 CallTy.of (fn := Tryz.f98) Tryz.func98 (n := 15) rfl rfl rfl (fun _ _ => by kernel_rfl) fun E W => by
 refine vQ ?_
 refine Ja rfl ?_
 refine vS [0] ?_
 refine J.reg0 hmx qK qK ?_
 refine yz (Z2 rfl) ?_
 refine yz (ZK rfl rfl) ?_
 refine yz (Z2 rfl) ?_
 refine yg rfl rfl rfl (fun hg => Z2 (.inl rfl)) ?_
 refine yg rfl rfl rfl (fun hg => ZhC (qR rfl) (.inl rfl)) ?_
 refine yg rfl rfl rfl (fun hg => Z8i (qR rfl) (.inl rfl)) ?_
 refine yg rfl rfl rfl (fun hg => Z2 (qR rfl)) ?_
 refine RT.gg rfl rfl rfl (fun hg => (Z2 (.inl rfl))) ?_
 refine RT.gg rfl rfl rfl (fun hg => (ZhC (qR rfl) (.inl rfl))) ?_
 refine RT.gg rfl rfl rfl (fun hg => (Z3Y (qR rfl) (.inl rfl))) ?_
 refine yg rfl rfl rfl (fun hg => ZP (qR rfl) (.inl rfl) (.inl rfl) (fun h => ⟨hg, h⟩)) ?_
 refine yz (ZT rfl rfl rfl id) ?_
 refine yz (Z1s rfl) ?_
 apply yn
 refine FinS.nil0 ?_
 refine vS [2] ?_
 refine vR ?_
 exact JX.ret1is rfl rfl (by rfl)
theorem Z7v (c : Int) : CallTy Tryz.prog Zag [.is (.int .u8 c)] (.is (.bool (digitF c))) :=
 CallTy.of (fn := Tryz.f100) Tryz.func100 (n := 9) rfl rfl rfl (fun _ _ => by kernel_rfl) fun E W => by
 refine vQ ?_
 refine Ja rfl ?_
 refine vS [0] ?_
 refine J.reg0 hmx qK qK ?_
 refine yz (Z2 rfl) ?_
 refine yz (Z8i rfl rfl) ?_
 refine yz (Z2 rfl) ?_
 refine yg rfl rfl rfl (fun hg => Z2 (.inl rfl)) ?_
 refine yg rfl rfl rfl (fun hg => Z3Y (qR rfl) (.inl rfl)) ?_
 refine yz (ZP rfl rfl rfl id) ?_
 refine yz (Z1s rfl) ?_
 apply yn
 refine FinS.nil0 ?_
 refine vS [2] ?_
 refine vR ?_
 exact JX.ret1is rfl rfl (by rfl)
theorem Z7s (c : Int) : CallTy Tryz.prog Z4A [.is (.int .u8 c)] (.is (.bool (letterF c || digitF c))) :=
 CallTy.of (fn := Tryz.f140) Tryz.func140 (n := 9) rfl rfl rfl (fun _ _ => by kernel_rfl) fun E W => by
 refine vQ ?_
 refine Ja rfl ?_
 refine vS [0] ?_
 refine J.reg0 hmx qK qK ?_
 refine yz (Z2 rfl) ?_
 refine yz (ZI rfl (Z6S c) qA) ?_
 refine yz (Z2 rfl) ?_
 refine yg rfl rfl rfl (fun hg => Z2 (.inl rfl)) ?_
 refine yg rfl rfl rfl (fun hg => ZI (.inl rfl) (Z7v c) (.one (qR rfl) .nil)) ?_
 refine yz (ZT rfl rfl rfl id) ?_
 refine yz (Z1s rfl) ?_
 apply yn
 refine FinS.nil0 ?_
 refine vS [2] ?_
 refine vR ?_
 exact JX.ret1is rfl rfl (by rfl)
theorem ZiO : Fn1 Tryz.prog (.func (.func Z4A) ([] : List Value).toArray ([] : List Value).toArray) TT AB (RBB wordB) :=
 Fn1.of (TF := []) (TC := []) (fun b => Z7s b.toNat) (fun _ _ _ => trivial) (fun _ _ _ => trivial) 0
theorem Zhk : Fn1 Tryz.prog (.func (.func Zag) ([] : List Value).toArray ([] : List Value).toArray) TT AB (RBB digB) :=
 Fn1.of (TF := []) (TC := []) (fun b => Z7v b.toNat) (fun _ _ _ => trivial) (fun _ _ _ => trivial) 0
theorem Z4X (s : ByteArray) (n : Nat) (hn : n ≤ s.size) (hs : s.size ≤ 9223372036854775806) : CallM Tryz.prog Z8b Z1f (sv s n) [] [] (sv s (n + runN isSp (dr s n))) (.is (.tuple #[])) :=
CallM.of (fn := Tryz.f56) Tryz.func56 (n := 32) rfl rfl rfl (fun _ _ => by kernel_rfl) fun E W b0 => by
 repeat apply yQ
 apply yk
 repeat apply yQ
 refine J.loopG (α := Nat) (fun i => [(0, .is (.pointer (some ⟨b0, 0, none⟩)))]) (fun i => [⟨b0, Z1f, .is (sv s i)⟩]) (fun i => fun _ => True) (fun i => i ≤ s.size ∧ i + runN isSp (dr s i) = n + runN isSp (dr s n)) (fun i => s.size - i) n [0] (.cons rfl .nil) rfl (fun _ => trivial) ⟨hn, rfl⟩ fun i ⟨hi, hr⟩ => ?_
 try dsimp only
 try dsimp only at hi
 try dsimp only at hr
 repeat apply yQ
 refine J.reg0 hmx qK qK ?_
 refine yz (Z2 rfl) ?_
 refine yz (Z5 rfl) ?_
 refine yz (Z0 Zg rfl) ?_
 refine yz (Z1 Zt rfl rfl) ?_
 refine yz (Z2 rfl) ?_
 refine yz (Z5 rfl) ?_
 refine yz (Z0 ZM rfl) ?_
 refine yz (Z1 Z8 rfl rfl) ?_
 refine yz (Z3C Zu rfl) ?_
 refine yz (ZU rfl rfl) ?_
 refine yz (Z2 rfl) ?_
 refine yg rfl rfl rfl (fun hg => Z2 (.inl rfl)) ?_
 refine yg rfl rfl rfl (fun hg => Z5 (qR rfl)) ?_
 refine yg rfl rfl rfl (fun hg => Z0 ZM (qR rfl)) ?_
 refine yg rfl rfl rfl (fun hg => Z1 Z8 (qR rfl) rfl) ?_
 refine yg rfl rfl rfl (fun hg => Z2 (.inl rfl)) ?_
 refine yg rfl rfl rfl (fun hg => Z5 (qR rfl)) ?_
 refine yg rfl rfl rfl (fun hg => Z0 Zg (qR rfl)) ?_
 refine yg rfl rfl rfl (fun hg => Z1 Zt (qR rfl) rfl) ?_
 refine yg rfl rfl rfl (fun hg => Z3K Zu (qR rfl) (qR rfl) (by have h := hg; simp only [decide_eq_true_eq] at h; omega) (by have h := hg; simp only [decide_eq_true_eq] at h; omega)) ?_
 refine yg rfl rfl rfl (fun hg => ZI (.inl rfl) (Z93 ⟨#[32, 9, 10, 13]⟩ (sb s i)) (.one (.inl rfl) (.one (qR rfl) .nil))) ?_
 refine yg rfl rfl rfl (fun hg => Z8i (qR rfl) (.inl rfl)) ?_
 refine yz (ZP rfl rfl rfl id) ?_
 apply yn
 refine FinS.nil0 ?_
 refine vS [0, 24] ?_
 refine yC rfl (fun ht24 => ?_) (fun ht24 => ?_)
 try simp only [yd, yf] at ht24
 apply yK
 refine vN ?_
 apply yk
 have hlt : i < s.size := by have h := (Z7b ht24).1; simp only [decide_eq_true_eq] at h; omega
 refine vQ ?_
 refine Jm rfl (Jq (Z5 rfl) ?_)
 refine Jq (Z0 Zg rfl) ?_
 refine Jq (Z1 Zt rfl rfl) ?_
 refine Jq (ZD (cc := ((i + 1 : Nat) : Int)) rfl rfl qM qM qM) ?_
 refine Jq (Z5 rfl) ?_
 refine Jq (Z0 Zg rfl) ?_
 refine JO.m (Zk (cs' := [_, _]) rfl rfl qU rfl rfl rfl rfl Z3v) (by rfl) ?_
 apply yI
 repeat refine JX.normal_block ?_
 refine JX.roundG (x := i) (i + 1) ?_ ?_ [0] ?_ ?_ ?_ ?_
 · exact ⟨by omega, by rw [← hr, Zfh qM (Z7b (show (decide ((i : Int) < s.size) && isSp (by_ s i)) = true by rw [← ZhG]; exact ht24)).2]; omega⟩
 · exact qM
 · exact qS
 · exact qH
 · exact qG
 · exact fun _ _ _ => fun _ _ => trivial
 try simp only [yd, yf] at ht24
 repeat apply yQ
 refine J.exit ?_
 repeat first|refine yH ?_|refine yM rfl ?_|refine yE ?_
 repeat first|apply yX|apply yB
 exact JX.normal_ret (JX.retM0e rfl HasOwn.mem (by rw [← hr, Zdt fun h => by have h2 : (decide ((i : Int) < s.size) && isSp (by_ s i)) = false := (by rw [← ZhG]; exact ht24); simpa [h] using h2]; rfl))
theorem Z5t (p : UInt8 → Bool) (fv : Value) (hf : Fn1 Tryz.prog fv TT AB (RBB p)) (s : ByteArray) (n : Nat) (hn : n ≤ s.size) (hs : s.size ≤ 9223372036854775806) : CallM Tryz.prog Z90 Z1f (sv s n) [] [.rep (FunR fv TT)] (sv s (n + runN p (dr s n))) (.is (.string (s.extract n (n + runN p (dr s n))))) :=
CallM.of (fn := Tryz.f139) Tryz.func139 (n := 50) rfl rfl rfl (fun _ _ => by kernel_rfl) fun E W b0 => by
 refine J.openFun (s := 1) rfl ?_
 refine vQ ?_
 refine Ja rfl ?_
 refine vP [0, 1] ?_
 refine Jm rfl (Jq (Z5 rfl) ?_)
 refine Jq (Z0 Zg rfl) ?_
 refine Jq (Z1 Zt rfl rfl) ?_
 refine Ja rfl ?_
 refine vS [0, 1, 5] ?_
 apply yk
 repeat apply yQ
 refine J.loopG (α := Nat) (fun i => [(0, .is (.pointer (some ⟨b0, 0, none⟩))), (1, .is fv), (5, .is (.int .i64 (n : Int)))]) (fun i => [⟨b0, Z1f, .is (sv s i)⟩]) (fun i => fun _ => True) (fun i => i ≤ s.size ∧ i + runN p (dr s i) = n + runN p (dr s n)) (fun i => s.size - i) n [0, 1, 5] (.cons rfl (.cons rfl (.cons rfl .nil))) rfl (fun _ => trivial) ⟨hn, rfl⟩ fun i ⟨hi, hr⟩ => ?_
 try dsimp only
 try dsimp only at hi
 try dsimp only at hr
 repeat apply yQ
 refine J.reg0 hmx qK qK ?_
 refine yz (Z2 rfl) ?_
 refine yz (Z5 rfl) ?_
 refine yz (Z0 Zg rfl) ?_
 refine yz (Z1 Zt rfl rfl) ?_
 refine yz (Z2 rfl) ?_
 refine yz (Z5 rfl) ?_
 refine yz (Z0 ZM rfl) ?_
 refine yz (Z1 Z8 rfl rfl) ?_
 refine yz (Z3C Zu rfl) ?_
 refine yz (ZU rfl rfl) ?_
 refine yz (Z2 rfl) ?_
 refine yg rfl rfl rfl (fun hg => Z2 (.inl rfl)) ?_
 refine yg rfl rfl rfl (fun hg => Z2 (.inl rfl)) ?_
 refine yg rfl rfl rfl (fun hg => Z5 (qR rfl)) ?_
 refine yg rfl rfl rfl (fun hg => Z0 ZM (qR rfl)) ?_
 refine yg rfl rfl rfl (fun hg => Z1 Z8 (qR rfl) rfl) ?_
 refine yg rfl rfl rfl (fun hg => Z2 (.inl rfl)) ?_
 refine yg rfl rfl rfl (fun hg => Z5 (qR rfl)) ?_
 refine yg rfl rfl rfl (fun hg => Z0 Zg (qR rfl)) ?_
 refine yg rfl rfl rfl (fun hg => Z1 Zt (qR rfl) rfl) ?_
 refine yg rfl rfl rfl (fun hg => Z3K Zu (qR rfl) (qR rfl) (by have h := hg; simp only [decide_eq_true_eq] at h; omega) (by have h := hg; simp only [decide_eq_true_eq] at h; omega)) ?_
 refine yg rfl rfl rfl (fun hg => Zhd (by_ s i) (qR rfl) hf qI (qR rfl)) ?_
 refine yz (ZP rfl rfl rfl id) ?_
 apply yn
 refine FinS.nil0 ?_
 refine vS [0, 1, 5, 32] ?_
 refine yC rfl (fun ht32 => ?_) (fun ht32 => ?_)
 try simp only [yd, yf] at ht32
 apply yK
 refine vN ?_
 apply yk
 have hlt : i < s.size := by have h := (Z7b ht32).1; simp only [decide_eq_true_eq] at h; omega
 refine vQ ?_
 refine Jm rfl (Jq (Z5 rfl) ?_)
 refine Jq (Z0 Zg rfl) ?_
 refine Jq (Z1 Zt rfl rfl) ?_
 refine Jq (ZD (cc := ((i + 1 : Nat) : Int)) rfl rfl qM qM qM) ?_
 refine Jq (Z5 rfl) ?_
 refine Jq (Z0 Zg rfl) ?_
 refine JO.m (Zk (cs' := [_, _]) rfl rfl qU rfl rfl rfl rfl Z3v) (by rfl) ?_
 apply yI
 repeat refine JX.normal_block ?_
 refine JX.roundG (x := i) (i + 1) ?_ ?_ [0, 1, 5] ?_ ?_ ?_ ?_
 · exact ⟨by omega, by rw [← hr, Zfh qM (Z7b (show (decide ((i : Int) < s.size) && p (by_ s i)) = true from ht32)).2]; omega⟩
 · exact qM
 · exact qS
 · exact qH
 · exact qG
 · exact fun _ _ _ => fun _ _ => trivial
 try simp only [yd, yf] at ht32
 repeat apply yQ
 refine J.exit ?_
 repeat first|refine yH ?_|refine yM rfl ?_|refine yE ?_
 repeat first|apply yX|apply yB
 have he : i = n + runN p (dr s n) := by rw [← hr, Zdt fun h => by have h2 : (decide ((i : Int) < s.size) && p (by_ s i)) = false := ht32; simpa [h] using h2]; rfl
 have hni : n ≤ i := by omega
 repeat apply yQ
 refine J.reg0 hmx qK qK ?_
 refine yz (Z2 rfl) ?_
 refine yz (Z5 rfl) ?_
 refine yz (Z0 ZM rfl) ?_
 refine yz (Z1 Z8 rfl rfl) ?_
 refine yz (Z2 rfl) ?_
 refine yz (Z2 rfl) ?_
 refine yz (Z5 rfl) ?_
 refine yz (Z0 Zg rfl) ?_
 refine yz (Z1 Zt rfl rfl) ?_
 refine yz (Z9c Zu rfl rfl rfl qM qM qM) ?_
 refine yz (Z1s rfl) ?_
 apply yn
 refine FinS.nil0 ?_
 refine vS [4] ?_
 refine vR ?_
 exact JX.retM1e rfl HasOwn.mem rfl (by rw [he]; rfl) (by rw [he])
end Go.Proofs.YtbedigkncjbggaaGreatDoor
set_option maxRecDepth 20000
namespace Go.Proofs.YtbedigkncjbggaaGreatDoor
open Go Go.Vc
theorem Zi3 (p : UInt8 → Bool) (s : ByteArray) (i : Nat) : headP p (dr s i) = (decide ((i : Int) < s.size) && p (by_ s i)) := by
 by_cases h : i < s.size
 · rw [Z3e h, headP, decide_eq_true qM, Bool.true_and]
 · rw [Z9y qM, headP, decide_eq_false qM, Bool.false_and]
theorem Zfp {s : ByteArray} {n : Nat} (hn : n < s.size) (q : Nat) : tryL (dr s n) q = (decide (((n + q : Nat) : Int) ≤ s.size) && Lib.contains sgB.data.toList ((sp1 ++ s.extract n (n + q)) ++ sp1).data.toList) := by
 unfold tryL
 rw [Z6w, Z1E, Z9v]
 congr 1
 exact decide_eq_decide.2 ⟨fun h => by omega, fun h => by omega⟩
theorem Zjo {l : List UInt8} {i : Nat} (h : i < l.length) : l[i]? = some (l.getD i 0) := by simp [h]
theorem ZbV {α : Type} (f : α → UInt8 → α) {a : α} {l : List UInt8} {k : Nat} (h : k < l.length) : (l.take (k + 1)).foldl f a = f ((l.take k).foldl f a) (l.getD k 0) := by
 rw [List.take_add_one, List.foldl_append]
 simp [h]
theorem Z8z (s : ByteArray) (n : Nat) (hn : n < s.size) (hs : s.size ≤ 2048) : CallM Tryz.prog Z5n Z1f (sv s n) [GF] [] (sv s (n + runN wordB (dr s n))) (.tup2 (.is (tv (wordL ((dr s n).take (runN wordB (dr s n)))).1)) (.is (.int .i64 (wordL ((dr s n).take (runN wordB (dr s n)))).2))) :=
CallM.of (fn := Tryz.f99) Tryz.func99 (n := 23) rfl rfl rfl (fun _ _ => by kernel_rfl) fun E W b0 => by
 refine vQ ?_
 refine JO.alloc Z2H rfl fun b2 => ?_
 refine Ja rfl ?_
 refine vP [0, 2] ?_
 refine Jm rfl ?_
 refine JO.md (Z8O rfl rfl (Z5t wordB _ ZiO s n qM qM) qU (by simp) (.sub rfl (Sub.funT (fun _ => trivial)) .nil)) (by rfl) rfl ?_
 refine Ja rfl ?_
 refine vP [2, 4] ?_
 refine Jm rfl (Jq (ZI rfl (Z6f (s.extract n (n + runN wordB (dr s n))) (by have h1 := Z5I s n (runN wordB (dr s n)); omega) (ZbX s n)) qA) ?_)
 refine Ja rfl ?_
 refine vP [2, 4, 5] ?_
 refine Jm rfl (Jq (Z5F rfl rfl (Zei (by show (bl (Lib.toUpperA (s.extract n (n + runN wordB (dr s n))).data.toList)).size ≤ 2048; rw [Z3z, Zba, Z1k]; have h1 := Z5I s n (runN wordB (dr s n)); omega))) ?_)
 refine Jq (Z5F rfl rfl (Ze3 (by show (bl (Lib.toUpperA (s.extract n (n + runN wordB (dr s n))).data.toList)).size ≤ 2048; rw [Z3z, Zba, Z1k]; have h1 := Z5I s n (runN wordB (dr s n)); omega))) ?_
 refine Jq (ZC rfl (Z62 kwB _ qD) (by simp) (.one rfl (.one rfl .nil))) ?_
 refine vS [2, 4, 5, 13] ?_
 refine yC rfl (fun ht13 => ?_) (fun ht13 => ?_)
 try simp only [yd, yf] at ht13
 refine vQ ?_
 refine Jm rfl (Jq (Zz (cs := [_, _, _]) Z1B (.cons rfl (.cons rfl .nil)) rfl rfl) ?_)
 refine JO.m (Z3 rfl rfl qU qC qO Z1h) (by rfl) ?_
 refine Ja rfl ?_
 refine vS [2, 3] ?_
 refine vR ?_
 exact JX.retMC1is rfl HasOwn.mem rfl Z10 HasOwn.mem rfl rfl (by have hc : (Lib.contains kwB.data.toList ((sp1 ++ ⟨(Lib.toUpperA (s.extract n (n + runN wordB (dr s n))).data.toList).toArray⟩) ++ sp1).data.toList) = Lib.contains kwB.data.toList (padL (Lib.toUpperA ((dr s n).take (runN wordB (dr s n))))) := (by rw [Z6w, Z41, Z1E]); rw [hc] at ht13; unfold wordL; rw [if_pos ht13, Z1E]) (by have hc : (Lib.contains kwB.data.toList ((sp1 ++ ⟨(Lib.toUpperA (s.extract n (n + runN wordB (dr s n))).data.toList).toArray⟩) ++ sp1).data.toList) = Lib.contains kwB.data.toList (padL (Lib.toUpperA ((dr s n).take (runN wordB (dr s n))))) := (by rw [Z6w, Z41, Z1E]); rw [hc] at ht13; unfold wordL; rw [if_pos ht13]) (by rfl)
 try simp only [yd, yf] at ht13
 apply yK
 refine vN ?_
 apply yN
 refine Jm rfl (Jq (Z3C Zu rfl) ?_)
 refine Jq (Z25 rfl rfl) ?_
 refine vS [2, 4, 18] ?_
 refine yC rfl (fun ht18 => ?_) (fun ht18 => ?_)
 try simp only [yd, yf] at ht18
 refine vQ ?_
 refine Jq (Zz (cs := [_, _, _]) Z1B .nil rfl rfl) ?_
 refine JO.m (Z3 rfl rfl qU qC qO Z1h) (by rfl) ?_
 refine Ja rfl ?_
 refine vS [2, 3] ?_
 refine vR ?_
 exact JX.retMC1is rfl HasOwn.mem rfl Z10 HasOwn.mem rfl rfl (by have hc : (Lib.contains kwB.data.toList ((sp1 ++ ⟨(Lib.toUpperA (s.extract n (n + runN wordB (dr s n))).data.toList).toArray⟩) ++ sp1).data.toList) = Lib.contains kwB.data.toList (padL (Lib.toUpperA ((dr s n).take (runN wordB (dr s n))))) := (by rw [Z6w, Z41, Z1E]); rw [hc] at ht13; have hl : ((s.extract n (n + runN wordB (dr s n))).size : Int) = (((dr s n).take (runN wordB (dr s n))).length : Int) := (by rw [← Z1k, Z1E]); rw [hl] at ht18; unfold wordL; rw [if_neg (by rw [ht13]; simp), if_pos (decide_eq_true ht18)]; rfl) (by have hc : (Lib.contains kwB.data.toList ((sp1 ++ ⟨(Lib.toUpperA (s.extract n (n + runN wordB (dr s n))).data.toList).toArray⟩) ++ sp1).data.toList) = Lib.contains kwB.data.toList (padL (Lib.toUpperA ((dr s n).take (runN wordB (dr s n))))) := (by rw [Z6w, Z41, Z1E]); rw [hc] at ht13; have hl : ((s.extract n (n + runN wordB (dr s n))).size : Int) = (((dr s n).take (runN wordB (dr s n))).length : Int) := (by rw [← Z1k, Z1E]); rw [hl] at ht18; unfold wordL; rw [if_neg (by rw [ht13]; simp), if_pos (decide_eq_true ht18)]) (by rfl)
 try simp only [yd, yf] at ht18
 apply yK
 refine vN ?_
 apply yN
 refine Jm rfl (Jq (ZI rfl (Z9Y (s.extract n (n + runN wordB (dr s n))) (by have h1 := Z5I s n (runN wordB (dr s n)); omega) (ZbX s n)) qA) ?_)
 refine Jq (Zz (cs := [_, _, _]) Z1B (.cons rfl (.cons rfl .nil)) rfl rfl) ?_
 refine JO.m (Z3 rfl rfl qU qC qO Z1h) (by rfl) ?_
 refine Ja rfl ?_
 refine vS [2, 3] ?_
 refine vR ?_
 exact JX.retMC1is rfl HasOwn.mem rfl Z10 HasOwn.mem rfl rfl (by have hc : (Lib.contains kwB.data.toList ((sp1 ++ ⟨(Lib.toUpperA (s.extract n (n + runN wordB (dr s n))).data.toList).toArray⟩) ++ sp1).data.toList) = Lib.contains kwB.data.toList (padL (Lib.toUpperA ((dr s n).take (runN wordB (dr s n))))) := (by rw [Z6w, Z41, Z1E]); rw [hc] at ht13; have hl : ((s.extract n (n + runN wordB (dr s n))).size : Int) = (((dr s n).take (runN wordB (dr s n))).length : Int) := (by rw [← Z1k, Z1E]); rw [hl] at ht18; unfold wordL; rw [if_neg (by rw [ht13]; simp), if_neg (by rw [decide_eq_false ht18]; simp), Z1E]) (by have hc : (Lib.contains kwB.data.toList ((sp1 ++ ⟨(Lib.toUpperA (s.extract n (n + runN wordB (dr s n))).data.toList).toArray⟩) ++ sp1).data.toList) = Lib.contains kwB.data.toList (padL (Lib.toUpperA ((dr s n).take (runN wordB (dr s n))))) := (by rw [Z6w, Z41, Z1E]); rw [hc] at ht13; have hl : ((s.extract n (n + runN wordB (dr s n))).size : Int) = (((dr s n).take (runN wordB (dr s n))).length : Int) := (by rw [← Z1k, Z1E]); rw [hl] at ht18; unfold wordL; rw [if_neg (by rw [ht13]; simp), if_neg (by rw [decide_eq_false ht18]; simp)]) (by rfl)
theorem Z7w (s : ByteArray) (n : Nat) (hn : n < s.size) (hs : s.size ≤ 2048) : CallM Tryz.prog Z4E Z1f (sv s n) [GF] [] (sv s (n + runN digB (dr s n))) (.tup2 (.is (tv (numL (dr s n)).1)) (.is (.int .i64 (numL (dr s n)).2))) :=
CallM.of (fn := Tryz.f101) Tryz.func101 (n := 58) rfl rfl rfl (fun _ _ => by kernel_rfl) fun E W b0 => by
 refine vQ ?_
 refine JO.alloc Z2H rfl fun b2 => ?_
 refine Ja rfl ?_
 refine vP [0, 2] ?_
 refine Ja rfl (Ja rfl ?_)
 refine vS [0, 2, 4, 5] ?_
 have hbl : ((dr s n).take (runN digB (dr s n))).length ≤ 2048 := by rw [List.length_take, Z9v]; omega
 refine vQ ?_
 refine Jm rfl ?_
 refine JO.md (Z8O rfl rfl (Z5t digB _ Zhk s n qM qM) qU (by simp) (.sub rfl (Sub.funT (fun _ => trivial)) .nil)) (by rfl) rfl ?_
 refine Jq (Zhm Zu Z43 Zay rfl) ?_
 refine JO.openSl (s := 11) rfl (fun a len cap bb bo hlen ha => ?_)
 have hlen2 : ((dr s n).take (runN digB (dr s n))).length = len := (by rw [← hlen, Z1E])
 subst hlen2
 refine Jq (Zn Z43 rfl) ?_
 refine Jm rfl ?_
 refine vS [0, 2, 4, 5, 11, 12, 13] ?_
 apply yk
 repeat apply yQ
 refine J.loopG (α := Nat × Int × Int) (fun z => [(0, .is (.pointer (some ⟨b0, 0, none⟩))), (2, .is (.pointer (some ⟨b2, 0, none⟩))), (4, .is (.int .i64 z.2.1)), (5, .is (.int .i64 z.2.2)), (11, .is (.slice a ((dr s n).take (runN digB (dr s n))).length cap)), (12, .is (.int .i64 (((dr s n).take (runN digB (dr s n))).length : Nat))), (13, .is (.int .i64 (z.1 : Nat)))]) (fun z => [⟨b2, Z2h, .is (tv t3D)⟩, ⟨b0, Z1f, .is (sv s (n + runN digB (dr s n)))⟩]) (fun z => fun _ => True) (fun z => z.1 ≤ ((dr s n).take (runN digB (dr s n))).length ∧ (((dr s n).take (runN digB (dr s n))).take z.1).foldl numStep (0, 0) = z.2) (fun z => ((dr s n).take (runN digB (dr s n))).length - z.1) (0, 0, 0) [0, 2, 4, 5, 11, 12, 13] (.cons rfl (.cons rfl (.cons rfl (.cons rfl (.cons rfl (.cons rfl (.cons rfl .nil))))))) rfl (fun _ => trivial) ⟨by omega, rfl⟩ fun ⟨k, m, e⟩ ⟨hk, hf⟩ => ?_
 try dsimp only
 try dsimp only at m
 try dsimp only at e
 try dsimp only at hk
 try dsimp only at hf
 refine vQ ?_
 refine Jq (ZU rfl rfl) ?_
 refine vS [0, 2, 4, 5, 11, 12, 13, 14] ?_
 refine yC rfl (fun ht14 => ?_) (fun ht14 => ?_)
 try simp only [yd, yf] at ht14
 apply yK
 refine vN ?_
 apply yk
 refine vQ ?_
 refine Jq (Z7 ZdH rfl (ha qM) rfl qM qM) ?_
 refine Jq (ZH (enc := bC) (sz := 1) (xs := (s.extract n (n + runN digB (dr s n))).data.toList) (len := ((dr s n).take (runN digB (dr s n))).length) (i := k) (j := 0) (y := ((dr s n).take (runN digB (dr s n))).getD k 0) Zho rfl qI (ha qM) (by rw [Z1E]; exact Zjo qM) (by simp) rfl) ?_
 refine Ja rfl ?_
 refine vP [0, 2, 4, 5, 7, 11, 12, 13] ?_
 refine Jm rfl (Jq (Zb4 rfl rfl) ?_)
 refine Jq (Zgw ⟨_, Zay⟩ ZgY rfl) ?_
 refine Ja rfl ?_
 refine vP [0, 2, 4, 5, 8, 11, 12, 13] ?_
 refine Jm rfl (Jm rfl (Jq (Zb4 rfl rfl) ?_))
 refine Jq (Zj6 rfl rfl qD) ?_
 refine Jq (Z25 rfl rfl) ?_
 refine vS [0, 2, 4, 5, 8, 11, 12, 13, 24] ?_
 refine yC rfl (fun ht24 => ?_) (fun ht24 => ?_)
 try simp only [yd, yf] at ht24
 refine vQ ?_
 refine Ja rfl ?_
 refine vP [0, 2, 4, 5, 8, 11, 12, 13] ?_
 refine Jm rfl (Jq (Zg8 rfl rfl) ?_)
 refine Jm rfl (Jq (Zb1 rfl rfl) ?_)
 refine Ja rfl ?_
 refine vP [0, 2, 4, 5, 11, 12, 13] ?_
 refine Jq (ZD (cc := ((k + 1 : Nat) : Int)) rfl rfl qM qM qM) ?_
 refine Jm rfl ?_
 apply yI
 repeat refine JX.normal_block ?_
 refine JX.roundG (x := ⟨k, m, e⟩) (k + 1, (numStep (m, e) (((dr s n).take (runN digB (dr s n))).getD k 0)).1, 35) ?_ ?_ [0, 2, 4, 5, 11, 12, 13] ?_ ?_ ?_ ?_
 · exact ⟨by omega, by rw [ZbV numStep qM, hf]; simp only [numStep]; rw [if_pos (decide_eq_true ht24)]⟩
 · exact (by simp only; omega)
 · exact qS
 · exact qH
 · exact qG
 · exact fun _ _ _ => fun _ _ => trivial
 try simp only [yd, yf] at ht24
 apply yK
 refine vN ?_
 apply yN
 refine Jm rfl (Jq (Zg8 rfl rfl) ?_)
 refine Jm rfl (Jq (Zb1 rfl rfl) ?_)
 refine Ja rfl ?_
 refine vP [0, 2, 4, 5, 11, 12, 13] ?_
 refine Jq (ZD (cc := ((k + 1 : Nat) : Int)) rfl rfl qM qM qM) ?_
 refine Jm rfl ?_
 apply yI
 repeat refine JX.normal_block ?_
 refine JX.roundG (x := ⟨k, m, e⟩) (k + 1, (numStep (m, e) (((dr s n).take (runN digB (dr s n))).getD k 0)).1, e) ?_ ?_ [0, 2, 4, 5, 11, 12, 13] ?_ ?_ ?_ ?_
 · exact ⟨by omega, by rw [ZbV numStep qM, hf]; simp only [numStep]; rw [if_neg (by rw [decide_eq_false ht24]; simp)]⟩
 · exact (by simp only; omega)
 · exact qS
 · exact qH
 · exact qG
 · exact fun _ _ _ => fun _ _ => trivial
 try simp only [yd, yf] at ht14
 repeat apply yQ
 refine J.exit ?_
 repeat first|refine yH ?_|refine yM rfl ?_|refine yE ?_
 repeat first|apply yX|apply yB
 have hfe : ((dr s n).take (runN digB (dr s n))).foldl numStep (0, 0) = (m, e) := (by have h1 : ((dr s n).take (runN digB (dr s n))).take k = ((dr s n).take (runN digB (dr s n))) := List.take_of_length_le qM; rw [h1] at hf; exact hf)
 have hh : headP letB ((dr s n).drop (runN digB (dr s n))) = (decide (((n + runN digB (dr s n) : Nat) : Int) < s.size) && letterF (sb s (n + runN digB (dr s n)))) := by rw [Z80]; exact Zi3 letB s _
 repeat apply yQ
 refine J.reg0 hmx qK qK ?_
 refine yz (Z2 rfl) ?_
 refine yz (Z5 rfl) ?_
 refine yz (Z0 Zg rfl) ?_
 refine yz (Z1 Zt rfl rfl) ?_
 refine yz (Z2 rfl) ?_
 refine yz (Z5 rfl) ?_
 refine yz (Z0 ZM rfl) ?_
 refine yz (Z1 Z8 rfl rfl) ?_
 refine yz (Z3C Zu rfl) ?_
 refine yz (ZU rfl rfl) ?_
 refine yz (Z2 rfl) ?_
 refine yg rfl rfl rfl (fun hg => Z2 (.inl rfl)) ?_
 refine yg rfl rfl rfl (fun hg => Z5 (qR rfl)) ?_
 refine yg rfl rfl rfl (fun hg => Z0 ZM (qR rfl)) ?_
 refine yg rfl rfl rfl (fun hg => Z1 Z8 (qR rfl) rfl) ?_
 refine yg rfl rfl rfl (fun hg => Z2 (.inl rfl)) ?_
 refine yg rfl rfl rfl (fun hg => Z5 (qR rfl)) ?_
 refine yg rfl rfl rfl (fun hg => Z0 Zg (qR rfl)) ?_
 refine yg rfl rfl rfl (fun hg => Z1 Zt (qR rfl) rfl) ?_
 refine yg rfl rfl rfl (fun hg => Z3K Zu (qR rfl) (qR rfl) (by have h := hg; simp only [decide_eq_true_eq] at h; omega) (by have h := hg; simp only [decide_eq_true_eq] at h; omega)) ?_
 refine yg rfl rfl rfl (fun hg => ZI (.inl rfl) (Z6S (sb s (n + runN digB (dr s n)))) (.one (qR rfl) .nil)) ?_
 refine yz (ZP rfl rfl rfl id) ?_
 apply yn
 refine FinS.nil0 ?_
 refine vS [2, 4, 5, 51] ?_
 refine yC rfl (fun ht51 => ?_) (fun ht51 => ?_)
 try simp only [yd, yf] at ht51
 refine vQ ?_
 refine Ja rfl ?_
 refine vP [2, 4, 5] ?_
 refine Jm rfl (Jq (Z24 rfl rfl) ?_)
 refine vS [2, 4, 5, 53] ?_
 refine yC rfl (fun ht53 => ?_) (fun ht53 => ?_)
 try simp only [yd, yf] at ht53
 refine vQ ?_
 refine Jq (Zz (cs := [_, _, _]) Z1B .nil rfl rfl) ?_
 refine Jm rfl ?_
 refine JO.m (Z3 rfl rfl qU qC qO Z1h) (by rfl) ?_
 refine Ja rfl ?_
 refine vS [2, 3] ?_
 refine vR ?_
 exact JX.retMC1is rfl HasOwn.mem rfl Z10 HasOwn.mem rfl rfl (by have hE : numE (dr s n) = 30 := (by unfold numE; rw [hh]; rw [if_pos ht51]); unfold numL; rw [hE, if_pos ht53]; rfl) (by have hE : numE (dr s n) = 30 := (by unfold numE; rw [hh]; rw [if_pos ht51]); unfold numL; rw [hE, if_pos ht53]) (by rfl)
 try simp only [yd, yf] at ht53
 apply yK
 refine vN ?_
 apply yN
 refine Jm rfl (Jq (Zz (cs := [_, _, _]) Z1B (.cons rfl (.cons rfl .nil)) rfl rfl) ?_)
 refine JO.m (Z3 rfl rfl qU qC qO Z1h) (by rfl) ?_
 refine Ja rfl ?_
 refine vS [2, 3] ?_
 refine vR ?_
 exact JX.retMC1is rfl HasOwn.mem rfl Z10 HasOwn.mem rfl rfl (by have hE : numE (dr s n) = 30 := (by unfold numE; rw [hh]; rw [if_pos ht51]); unfold numL; rw [hE, if_neg (by rw [ht53]; simp), hfe]) (by have hE : numE (dr s n) = 30 := (by unfold numE; rw [hh]; rw [if_pos ht51]); unfold numL; rw [hE, if_neg (by rw [ht53]; simp)]) (by rfl)
 try simp only [yd, yf] at ht51
 apply yK
 refine vN ?_
 apply yN
 refine Jm rfl (Jq (Z24 rfl rfl) ?_)
 refine vS [2, 4, 5, 53] ?_
 refine yC rfl (fun ht53 => ?_) (fun ht53 => ?_)
 try simp only [yd, yf] at ht53
 refine vQ ?_
 refine Jq (Zz (cs := [_, _, _]) Z1B .nil rfl rfl) ?_
 refine Jm rfl ?_
 refine JO.m (Z3 rfl rfl qU qC qO Z1h) (by rfl) ?_
 refine Ja rfl ?_
 refine vS [2, 3] ?_
 refine vR ?_
 exact JX.retMC1is rfl HasOwn.mem rfl Z10 HasOwn.mem rfl rfl (by have hE : numE (dr s n) = e := (by unfold numE; rw [hh]; rw [if_neg (by rw [ht51]; simp), hfe]); unfold numL; rw [hE, if_pos ht53]; rfl) (by have hE : numE (dr s n) = e := (by unfold numE; rw [hh]; rw [if_neg (by rw [ht51]; simp), hfe]); unfold numL; rw [hE, if_pos ht53]) (by rfl)
 try simp only [yd, yf] at ht53
 apply yK
 refine vN ?_
 apply yN
 refine Jm rfl (Jq (Zz (cs := [_, _, _]) Z1B (.cons rfl (.cons rfl .nil)) rfl rfl) ?_)
 refine JO.m (Z3 rfl rfl qU qC qO Z1h) (by rfl) ?_
 refine Ja rfl ?_
 refine vS [2, 3] ?_
 refine vR ?_
 exact JX.retMC1is rfl HasOwn.mem rfl Z10 HasOwn.mem rfl rfl (by have hE : numE (dr s n) = e := (by unfold numE; rw [hh]; rw [if_neg (by rw [ht51]; simp), hfe]); unfold numL; rw [hE, if_neg (by rw [ht53]; simp), hfe]) (by have hE : numE (dr s n) = e := (by unfold numE; rw [hh]; rw [if_neg (by rw [ht51]; simp), hfe]); unfold numL; rw [hE, if_neg (by rw [ht53]; simp)]) (by rfl)
theorem Z8s (s : ByteArray) (n : Nat) (hn : n < s.size) (hs : s.size ≤ 2048) : CallM Tryz.prog Z58 Z1f (sv s n) [GF] [] (sv s (n + (signL (dr s n)).2)) (.tup2 (.is (tv (signL (dr s n)).1.1)) (.is (.int .i64 (signL (dr s n)).1.2))) :=
CallM.of (fn := Tryz.f103) Tryz.func103 (n := 66) rfl rfl rfl (fun _ _ => by kernel_rfl) fun E W b0 => by
 refine vQ ?_
 refine JO.alloc Z2H rfl fun b2 => ?_
 refine Ja rfl ?_
 refine vP [0, 2] ?_
 refine Ja rfl ?_
 refine vS [0, 2, 4] ?_
 apply yk
 repeat apply yQ
 refine J.loopG (α := Nat) (fun q => [(0, .is (.pointer (some ⟨b0, 0, none⟩))), (2, .is (.pointer (some ⟨b2, 0, none⟩))), (4, .is (.int .i64 (q : Nat)))]) (fun q => [⟨b2, Z2h, .is (tv t3D)⟩, ⟨b0, Z1f, .is (sv s n)⟩]) (fun q => fun _ => True) (fun q => q ≤ 2 ∧ (q < 2 → tryL (dr s n) 2 = false) ∧ (q < 1 → tryL (dr s n) 1 = false)) (fun q => q) 2 [0, 2, 4] (.cons rfl (.cons rfl (.cons rfl .nil))) rfl (fun _ => trivial) ⟨by omega, fun h => absurd h qM, fun h => absurd h qM⟩ fun q ⟨hq, h2, h1⟩ => ?_
 try dsimp only
 try dsimp only at hq
 try dsimp only at h2
 try dsimp only at h1
 refine vQ ?_
 refine Jm rfl (Jq (Z25 rfl rfl) ?_)
 refine vS [0, 2, 4, 6] ?_
 refine yC rfl (fun ht6 => ?_) (fun ht6 => ?_)
 try simp only [yd, yf] at ht6
 apply yK
 refine vN ?_
 apply yk
 repeat apply yQ
 refine J.reg0 hmx qK qK ?_
 refine yz (Z2 rfl) ?_
 refine yz (Z5 rfl) ?_
 refine yz (Z0 Zg rfl) ?_
 refine yz (Z1 Zt rfl rfl) ?_
 refine yz (Z2 rfl) ?_
 refine yz (ZD (cc := ((n + q : Nat) : Int)) rfl rfl qM qM qM) ?_
 refine yz (Z2 rfl) ?_
 refine yz (Z5 rfl) ?_
 refine yz (Z0 ZM rfl) ?_
 refine yz (Z1 Z8 rfl rfl) ?_
 refine yz (Z3C Zu rfl) ?_
 refine yz (Z3Y rfl rfl) ?_
 refine yz (Z2 rfl) ?_
 refine yg rfl rfl rfl (fun hg => Z2 (.inl rfl)) ?_
 refine yg rfl rfl rfl (fun hg => Z5 (qR rfl)) ?_
 refine yg rfl rfl rfl (fun hg => Z0 ZM (qR rfl)) ?_
 refine yg rfl rfl rfl (fun hg => Z1 Z8 (qR rfl) rfl) ?_
 refine yg rfl rfl rfl (fun hg => Z2 (.inl rfl)) ?_
 refine yg rfl rfl rfl (fun hg => Z5 (qR rfl)) ?_
 refine yg rfl rfl rfl (fun hg => Z0 Zg (qR rfl)) ?_
 refine yg rfl rfl rfl (fun hg => Z1 Zt (qR rfl) rfl) ?_
 refine yg rfl rfl rfl (fun hg => Z2 (.inl rfl)) ?_
 refine yg rfl rfl rfl (fun hg => Z5 (qR rfl)) ?_
 refine yg rfl rfl rfl (fun hg => Z0 Zg (qR rfl)) ?_
 refine yg rfl rfl rfl (fun hg => Z1 Zt (qR rfl) rfl) ?_
 refine yg rfl rfl rfl (fun hg => Z2 (.inl rfl)) ?_
 refine yg rfl rfl rfl (fun hg => ZD (cc := ((n + q : Nat) : Int)) (qR rfl) (qR rfl) qM qM qM) ?_
 refine yg rfl rfl rfl (fun hg => Z9c Zu (qR rfl) (qR rfl) (qR rfl) qM qM (by have h := hg; simp only [decide_eq_true_eq] at h; omega)) ?_
 refine yg rfl rfl rfl (fun hg => Z5F (.inl rfl) (qR rfl) (Zei (by have h1 := Z5I s n q; show (s.extract n (n + q)).size ≤ 2048; omega))) ?_
 refine yg rfl rfl rfl (fun hg => Z5F (qR rfl) (.inl rfl) (Ze3 (by have h1 := Z5I s n q; show (s.extract n (n + q)).size ≤ 2048; omega))) ?_
 refine yg rfl rfl rfl (fun hg => ZC (.inl rfl) (Z62 sgB ((sp1 ++ s.extract n (n + q)) ++ sp1) qD) (by simp) (.one (.inl rfl) (.one (qR rfl) .nil))) ?_
 refine yz (ZP rfl rfl rfl id) ?_
 apply yn
 refine FinS.nil0 ?_
 refine vS [0, 2, 4, 40] ?_
 refine yC rfl (fun ht40 => ?_) (fun ht40 => ?_)
 try simp only [yd, yf] at ht40
 have ht1 : tryL (dr s n) q = true := (Zfp hn q).trans ht40
 have hsg : signL (dr s n) = ((⟨5, bl ((dr s n).take q), 0⟩, 0), q) := by
   unfold signL
   rcases (show q = 1 ∨ q = 2 by omega) with rfl|rfl
   · rw [if_neg (by rw [h2 qM]; simp), if_pos ht1]
   · rw [if_pos ht1]
 have hfit : n + q ≤ s.size := by have h := ht40; simp only [Bool.and_eq_true, decide_eq_true_eq] at h; omega
 refine vQ ?_
 refine Jm rfl (Jq (Z5 rfl) ?_)
 refine Jq (Z0 Zg rfl) ?_
 refine Jq (Z1 Zt rfl rfl) ?_
 refine Jm rfl (Jq (ZD (cc := ((n + q : Nat) : Int)) rfl rfl qM qM qM) ?_)
 refine Jq (Z5 rfl) ?_
 refine Jq (Z0 Zg rfl) ?_
 refine JO.m (Zk (cs' := [_, _]) rfl rfl qU rfl rfl rfl rfl Z3v) (by rfl) ?_
 refine vS [0, 2, 4] ?_
 refine J.front b2 (by repeat (first|exact .here|apply Front.there)) ?_
 refine J.reg1 hmx qK qK ?_
 refine yz (Z2 rfl) ?_
 refine yz (Z5 rfl) ?_
 refine yz (Z0 ZM rfl) ?_
 refine yz (Z1 Z8 rfl rfl) ?_
 refine yz (Z2 rfl) ?_
 refine yz (Z5 rfl) ?_
 refine yz (Z0 Zg rfl) ?_
 refine yz (Z1 Zt rfl rfl) ?_
 refine yz (Z2 rfl) ?_
 refine yz (Zer (cc := (n : Int)) rfl rfl qM qM qM) ?_
 refine yz (Z2 rfl) ?_
 refine yz (Z5 rfl) ?_
 refine yz (Z0 Zg rfl) ?_
 refine yz (Z1 Zt rfl rfl) ?_
 refine yz (Z9c Zu rfl rfl rfl qM qM qM) ?_
 refine yz (Zz (cs := [_, _, _]) Z1B (.cons rfl (.cons rfl .nil)) rfl rfl) ?_
 refine RT.m rfl (Z3 rfl rfl qU qC qO Z1h) (by rfl) ?_
 refine yz (Z1s rfl) ?_
 apply yn
 refine FinS.nil1 ?_
 refine vS [2, 3] ?_
 refine vR ?_
 exact JX.retMC1is rfl HasOwn.mem rfl Z10 HasOwn.mem rfl rfl (by rw [hsg]; show Value.agg #[.int .i64 5, .string (s.extract n (n + q)), .int .i64 0] = _; rw [ZfL]) (by rw [hsg]) (by rw [hsg])
 try simp only [yd, yf] at ht40
 apply yK
 repeat first|apply yX|apply yB
 have ht2 : tryL (dr s n) q = false := (Zfp hn q).trans ht40
 refine vQ ?_
 refine Jm rfl (Jq (Zer (cc := ((q - 1 : Nat) : Int)) rfl rfl qM qM qM) ?_)
 refine Ja rfl ?_
 apply yI
 repeat refine JX.normal_block ?_
 refine JX.roundG (x := q) (q - 1) ?_ ?_ [0, 2, 4] ?_ ?_ ?_ ?_
 · exact ⟨by omega, fun h => (by rcases (show q = 1 ∨ q = 2 by omega) with rfl|rfl; exact h2 qM; exact ht2), fun h => (by have : q = 1 := qM; subst this; exact ht2)⟩
 · exact qM
 · exact qS
 · exact qH
 · exact qG
 · exact fun _ _ _ => fun _ _ => trivial
 try simp only [yd, yf] at ht6
 repeat apply yQ
 refine J.exit ?_
 repeat first|refine yH ?_|refine yM rfl ?_|refine yE ?_
 repeat first|apply yX|apply yB
 have hsg : signL (dr s n) = ((t3D, 30), 0) := by unfold signL; rw [if_neg (by rw [h2 qM]; simp), if_neg (by rw [h1 qM]; simp)]
 refine vQ ?_
 refine Jq (Zz (cs := [_, _, _]) Z1B .nil rfl rfl) ?_
 refine JO.m (Z3 rfl rfl qU qC qO Z1h) (by rfl) ?_
 refine Ja rfl ?_
 refine vS [2, 3] ?_
 refine vR ?_
 exact JX.retMC1is rfl HasOwn.mem rfl Z10 HasOwn.mem rfl rfl (by rw [hsg]; rfl) (by rw [hsg]) (by rw [hsg]; rfl)
end Go.Proofs.YtbedigkncjbggaaGreatDoor
set_option maxRecDepth 20000
namespace Go.Proofs.YtbedigkncjbggaaGreatDoor
open Go Go.Vc
theorem q39 (b : UInt8) : ((b.toNat : Int) == 39) = (b == 39) := by
 have h1 : (39 : UInt8).toNat = 39 := rfl
 refine Bool.eq_iff_iff.2 ⟨fun h => ?_, fun h => ?_⟩
 · have h : (b.toNat : Int) = 39 := by simpa using h
   have : b = 39 := UInt8.toNat_inj.1 (by rw [h1]; omega)
   simp [this]
 · have h : b = 39 := by simpa using h
   subst h
   rfl
theorem Zh4 {s : ByteArray} {i : Nat} (h : s.size ≤ i) (acc : List UInt8) : textL (dr s i) acc = ((t3D, 30), 0) := by rw [Z9y h]; rfl
theorem Z4t (b : UInt8) (l acc : List UInt8) (hb : (b == 39) = false) : textL (b :: l) acc = ((textL l (acc ++ [b])).1, (textL l (acc ++ [b])).2 + 1) := by
 cases l with
 | nil => simp [textL, hb]
 | cons c l => rw [textL, if_neg (by rw [hb]; simp)]
theorem Zit {s : ByteArray} {i : Nat} (h : i < s.size) (acc : List UInt8) (hb : (by_ s i == 39) = false) : textL (dr s i) acc = ((textL (dr s (i + 1)) (acc ++ [by_ s i])).1, (textL (dr s (i + 1)) (acc ++ [by_ s i])).2 + 1) := by
 rw [Z3e h, Z4t _ _ _ hb]
theorem Zhz {s : ByteArray} {i : Nat} (h : i + 1 < s.size) (acc : List UInt8) (hb : (by_ s i == 39) = true) (hc : (by_ s (i + 1) == 39) = true) :
  textL (dr s i) acc = ((textL (dr s (i + 1 + 1)) (acc ++ [by_ s (i + 1)])).1, (textL (dr s (i + 1 + 1)) (acc ++ [by_ s (i + 1)])).2 + 2) := by
 rw [Z3e (by omega : i < s.size), Z3e h, textL, if_pos hb, if_neg (by simp [bne, hc])]
theorem Zhs {s : ByteArray} {i : Nat} (h : i < s.size) (acc : List UInt8) (hb : (by_ s i == 39) = true) (hc : (((i + 1 : Nat) : Int) == (s.size : Int) || !(by_ s (i + 1) == 39)) = true) : textL (dr s i) acc = (endT acc, 1) := by
 by_cases h1 : i + 1 < s.size
 · have hc : (by_ s (i + 1) == 39) = false := by
     rw [beq_eq_false_iff_ne.2 qM, Bool.false_or] at hc
     simpa using hc
   rw [Z3e h, Z3e h1, textL, if_pos hb, if_pos (by simp [bne, hc])]
 · rw [Z3e h, Z9y qM, textL, if_pos hb]
theorem Z8n (s : ByteArray) (n : Nat) (hn : n < s.size) (hs : s.size ≤ 2048) : CallM Tryz.prog Z5d Z1f (sv s n) [GF] [] (sv s (n + 1 + (textL (dr s (n + 1)) []).2)) (.tup2 (.is (tv (textL (dr s (n + 1)) []).1.1)) (.is (.int .i64 (textL (dr s (n + 1)) []).1.2))) :=
CallM.of (fn := Tryz.f102) Tryz.func102 (n := 88) rfl rfl rfl (fun _ _ => by kernel_rfl) fun E W b0 => by
 refine vQ ?_
 refine JO.alloc Z2H rfl fun b2 => ?_
 refine Ja rfl ?_
 refine vP [0, 2] ?_
 refine Ja rfl ?_
 refine vP [0, 2, 4] ?_
 refine Jm rfl (Jq (Z5 rfl) ?_)
 refine Jq (Z0 Zg rfl) ?_
 refine Jq (Z1 Zt rfl rfl) ?_
 refine Jq (ZD (cc := ((n + 1 : Nat) : Int)) rfl rfl qM qM qM) ?_
 refine Jq (Z5 rfl) ?_
 refine Jq (Z0 Zg rfl) ?_
 refine JO.m (Zk (cs' := [_, _]) rfl rfl qU rfl rfl rfl rfl Z3v) (by rfl) ?_
 refine vS [0, 2, 4] ?_
 apply yk
 repeat apply yQ
 refine J.loopG (α := Nat × List UInt8 × Option (Nat × List Value) × Nat) (fun z => [(0, .is (.pointer (some ⟨b0, 0, none⟩))), (2, .is (.pointer (some ⟨b2, 0, none⟩))), (4, .is (sliceO z.2.2.1 z.2.1.length z.2.2.2))]) (fun z => ⟨b2, Z2h, .is (tv t3D)⟩ :: ⟨b0, Z1f, .is (sv s z.1)⟩ :: ownO z.2.2.1 Zdi []) (fun z => fun _ => True) (fun z => z.1 ≤ s.size ∧ ((textL (dr s z.1) z.2.1).1 = (textL (dr s (n + 1)) []).1 ∧ z.1 + (textL (dr s z.1) z.2.1).2 = n + 1 + (textL (dr s (n + 1)) []).2) ∧ Grows bC 1 z.2.1 z.2.2.1 z.2.2.2 ∧ z.2.1.length ≤ z.1) (fun z => s.size - z.1) (n + 1, [], none, 0) [0, 2, 4] (.cons rfl (.cons rfl (.cons rfl .nil))) rfl (fun _ => trivial) ⟨by omega, ⟨rfl, rfl⟩, rfl, by simp⟩ fun ⟨i, acc, st, cp⟩ ⟨hi, ⟨hr1, hr2⟩, hG, hal⟩ => ?_
 try dsimp only
 try dsimp only at acc
 try dsimp only at st
 try dsimp only at cp
 try dsimp only at hi
 try dsimp only at hr1
 try dsimp only at hr2
 try dsimp only at hG
 try dsimp only at hal
 repeat apply yQ
 refine J.reg0 hmx qK qK ?_
 refine yz (Z2 rfl) ?_
 refine yz (Z5 rfl) ?_
 refine yz (Z0 Zg rfl) ?_
 refine yz (Z1 Zt rfl rfl) ?_
 refine yz (Z2 rfl) ?_
 refine yz (Z5 rfl) ?_
 refine yz (Z0 ZM rfl) ?_
 refine yz (Z1 Z8 rfl rfl) ?_
 refine yz (Z3C Zu rfl) ?_
 refine yz (ZU rfl rfl) ?_
 apply yn
 refine FinS.nil0 ?_
 refine vS [0, 2, 4, 21] ?_
 refine yC rfl (fun ht21 => ?_) (fun ht21 => ?_)
 try simp only [yd, yf] at ht21
 apply yK
 refine vN ?_
 apply yk
 repeat apply yQ
 refine J.reg0 hmx qK qK ?_
 refine yz (Z2 rfl) ?_
 refine yz (Z5 rfl) ?_
 refine yz (Z0 ZM rfl) ?_
 refine yz (Z1 Z8 rfl rfl) ?_
 refine yz (Z2 rfl) ?_
 refine yz (Z5 rfl) ?_
 refine yz (Z0 Zg rfl) ?_
 refine yz (Z1 Zt rfl rfl) ?_
 refine yz (Z3K Zu rfl rfl qM qM) ?_
 refine yz (ZK rfl rfl) ?_
 apply yn
 refine FinS.nil0 ?_
 refine vS [0, 2, 4, 38] ?_
 refine yC rfl (fun ht38 => ?_) (fun ht38 => ?_)
 try simp only [yd, yf] at ht38
 have hb39 : (by_ s i == 39) = true := (by rw [← q39]; first|exact ht38 | simpa using ht38)
 refine vQ ?_
 refine Jm rfl (Jq (Z5 rfl) ?_)
 refine Jq (Z0 Zg rfl) ?_
 refine Jq (Z1 Zt rfl rfl) ?_
 refine Jq (ZD (cc := ((i + 1 : Nat) : Int)) rfl rfl qM qM qM) ?_
 refine Jq (Z5 rfl) ?_
 refine Jq (Z0 Zg rfl) ?_
 refine JO.m (Zk (cs' := [_, _]) rfl rfl qU rfl rfl rfl rfl Z3v) (by rfl) ?_
 refine vS [0, 2, 4] ?_
 refine J.reg0 hmx qK qK ?_
 refine yz (Z2 rfl) ?_
 refine yz (Z5 rfl) ?_
 refine yz (Z0 Zg rfl) ?_
 refine yz (Z1 Zt rfl rfl) ?_
 refine yz (Z2 rfl) ?_
 refine yz (Z5 rfl) ?_
 refine yz (Z0 ZM rfl) ?_
 refine yz (Z1 Z8 rfl rfl) ?_
 refine yz (Z3C Zu rfl) ?_
 refine yz (ZK rfl rfl) ?_
 refine yz (Z2 rfl) ?_
 refine yg rfl rfl rfl (fun hg => Z2 (.inl rfl)) ?_
 refine yg rfl rfl rfl (fun hg => Z5 (qR rfl)) ?_
 refine yg rfl rfl rfl (fun hg => Z0 ZM (qR rfl)) ?_
 refine yg rfl rfl rfl (fun hg => Z1 Z8 (qR rfl) rfl) ?_
 refine yg rfl rfl rfl (fun hg => Z2 (.inl rfl)) ?_
 refine yg rfl rfl rfl (fun hg => Z5 (qR rfl)) ?_
 refine yg rfl rfl rfl (fun hg => Z0 Zg (qR rfl)) ?_
 refine yg rfl rfl rfl (fun hg => Z1 Zt (qR rfl) rfl) ?_
 refine yg rfl rfl rfl (fun hg => Z3K Zu (qR rfl) (qR rfl) (by simp at hg; omega) (by simp at hg; omega)) ?_
 refine yg rfl rfl rfl (fun hg => Z24 (qR rfl) (.inl rfl)) ?_
 refine yz (ZT rfl rfl rfl id) ?_
 apply yn
 refine FinS.nil0 ?_
 refine vS [0, 2, 4, 67] ?_
 refine yC rfl (fun ht67 => ?_) (fun ht67 => ?_)
 try simp only [yd, yf] at ht67
 have htx := Zhs qM acc hb39 (show (((i + 1 : Nat) : Int) == (s.size : Int) || !(by_ s (i + 1) == 39)) = true by rw [← q39]; exact ht67)
 rw [htx] at hr1 hr2
 refine J.freezeOM ZcK hG (e := Zdi) yV (fun q h => ⟨_, List.mem_cons_of_mem _ List.mem_cons_self, h.symm⟩) rfl rfl ?_
 obtain ⟨cap2, hso⟩ := Zc5 hG
 rw [hso]
 refine vQ ?_
 refine Jm rfl (Jq (Zn Z43 rfl) ?_)
 refine Jq (Z25 rfl rfl) ?_
 refine vS [2, 4, 70] ?_
 refine yC rfl (fun ht70 => ?_) (fun ht70 => ?_)
 try simp only [yd, yf] at ht70
 refine vQ ?_
 refine Jq (Zz (cs := [_, _, _]) Z1B .nil rfl rfl) ?_
 refine JO.m (Z3 rfl rfl qU qC qO Z1h) (by rfl) ?_
 refine Ja rfl ?_
 refine vS [2, 3] ?_
 refine vR ?_
 exact JX.retMC1is rfl HasOwn.mem rfl Z10 HasOwn.mem rfl rfl (by rw [← hr1]; unfold endT; rw [if_pos (decide_eq_true ht70)]; rfl) (by rw [← hr1]; unfold endT; rw [if_pos (decide_eq_true ht70)]) (by rw [← hr2])
 try simp only [yd, yf] at ht70
 apply yK
 refine vN ?_
 apply yN
 refine Jm rfl (Jq (Zjn Z43 Zay Zu rfl qI) ?_)
 refine Jq (Zz (cs := [_, _, _]) Z1B (.cons rfl (.cons rfl .nil)) rfl rfl) ?_
 refine JO.m (Z3 rfl rfl qU qC qO Z1h) (by rfl) ?_
 refine Ja rfl ?_
 refine vS [2, 3] ?_
 refine vR ?_
 exact JX.retMC1is rfl HasOwn.mem rfl Z10 HasOwn.mem rfl rfl (by rw [← hr1]; unfold endT; rw [if_neg (by rw [decide_eq_false ht70]; simp)]) (by rw [← hr1]; unfold endT; rw [if_neg (by rw [decide_eq_false ht70]; simp)]) (by rw [← hr2])
 try simp only [yd, yf] at ht67
 apply yK
 repeat first|apply yX|apply yB
 have hlt2 : i + 1 < s.size := (by have h := ht67; simp only [Bool.or_eq_false_iff, beq_eq_false_iff_ne] at h; omega)
 have hc39 : (by_ s (i + 1) == 39) = true := (by have h := (Bool.or_eq_false_iff.1 ht67).2; rw [← q39]; exact (show (sb s (i + 1) == 39) = true by simpa using h))
 repeat apply yQ
 refine J.regS 11 hmx qK qK ?_
 refine yz (Z2 rfl) ?_
 refine yz (Z2 rfl) ?_
 refine yz (Z5 rfl) ?_
 refine yz (Z0 ZM rfl) ?_
 refine yz (Z1 Z8 rfl rfl) ?_
 refine yz (Z2 rfl) ?_
 refine yz (Z5 rfl) ?_
 refine yz (Z0 Zg rfl) ?_
 refine yz (Z1 Zt rfl rfl) ?_
 refine yz (Z3K Zu rfl rfl qM qM) ?_
 refine yz (ZE (cs := [_]) Zae qM qM (.cons rfl .nil) rfl rfl rfl) ?_
 apply yn
 refine FinS.tail0 ?_
 refine JO.apP [by_ s (i + 1)] Za7 ZcK (by repeat (first|exact .here|apply Cx.past|apply Cx.there)) hG rfl rfl (fun L => Z3k Z43 rfl rfl) (by simp) (by simp; omega) (by simp; omega) rfl (fun st1 cp1 hG1 => ?_)
 try dsimp only
 refine Ja rfl ?_
 refine vP [0, 2, 4] ?_
 refine Jm rfl (Jq (Z5 rfl) ?_)
 refine Jq (Z0 Zg rfl) ?_
 refine Jq (Z1 Zt rfl rfl) ?_
 refine Jq (ZD (cc := ((i + 1 + 1 : Nat) : Int)) rfl rfl qM qM qM) ?_
 refine Jq (Z5 rfl) ?_
 refine Jq (Z0 Zg rfl) ?_
 refine JO.m (Zk (cs' := [_, _]) rfl rfl qU rfl rfl rfl rfl Z3v) (by rfl) ?_
 apply yI
 repeat refine JX.normal_block ?_
 refine JX.roundG (x := ⟨i, acc, st, cp⟩) (i + 1 + 1, acc ++ [by_ s (i + 1)], st1, cp1) ?_ ?_ [0, 2, 4] ?_ ?_ ?_ ?_
 · exact ⟨by omega, by have h := Zhz hlt2 acc hb39 hc39; rw [h] at hr1 hr2; exact ⟨hr1, (by dsimp only; omega)⟩, hG1, by simp; omega⟩
 · exact (by simp only; omega)
 · exact qS
 · exact qH
 · exact qG
 · exact fun _ _ _ => fun _ _ => trivial
 try simp only [yd, yf] at ht38
 apply yK
 repeat first|apply yX|apply yB
 have hb39 : (by_ s i == 39) = false := (by rw [← q39]; first|exact ht38 | simpa using ht38)
 repeat apply yQ
 refine J.regS 11 hmx qK qK ?_
 refine yz (Z2 rfl) ?_
 refine yz (Z2 rfl) ?_
 refine yz (Z5 rfl) ?_
 refine yz (Z0 ZM rfl) ?_
 refine yz (Z1 Z8 rfl rfl) ?_
 refine yz (Z2 rfl) ?_
 refine yz (Z5 rfl) ?_
 refine yz (Z0 Zg rfl) ?_
 refine yz (Z1 Zt rfl rfl) ?_
 refine yz (Z3K Zu rfl rfl qM qM) ?_
 refine yz (ZE (cs := [_]) Zae qM qM (.cons rfl .nil) rfl rfl rfl) ?_
 apply yn
 refine FinS.tail0 ?_
 refine JO.apP [by_ s i] Za7 ZcK (by repeat (first|exact .here|apply Cx.past|apply Cx.there)) hG rfl rfl (fun L => Z3k Z43 rfl rfl) (by simp) (by simp; omega) (by simp; omega) rfl (fun st1 cp1 hG1 => ?_)
 try dsimp only
 refine Ja rfl ?_
 refine vP [0, 2, 4] ?_
 refine Jm rfl (Jq (Z5 rfl) ?_)
 refine Jq (Z0 Zg rfl) ?_
 refine Jq (Z1 Zt rfl rfl) ?_
 refine Jq (ZD (cc := ((i + 1 : Nat) : Int)) rfl rfl qM qM qM) ?_
 refine Jq (Z5 rfl) ?_
 refine Jq (Z0 Zg rfl) ?_
 refine JO.m (Zk (cs' := [_, _]) rfl rfl qU rfl rfl rfl rfl Z3v) (by rfl) ?_
 apply yI
 repeat refine JX.normal_block ?_
 refine JX.roundG (x := ⟨i, acc, st, cp⟩) (i + 1, acc ++ [by_ s i], st1, cp1) ?_ ?_ [0, 2, 4] ?_ ?_ ?_ ?_
 · exact ⟨by omega, by have h := Zit qM acc hb39; rw [h] at hr1 hr2; exact ⟨hr1, (by dsimp only; omega)⟩, hG1, by simp; omega⟩
 · exact (by simp only; omega)
 · exact qS
 · exact qH
 · exact qG
 · exact fun _ _ _ => fun _ _ => trivial
 try simp only [yd, yf] at ht21
 repeat apply yQ
 refine J.exit ?_
 repeat first|refine yH ?_|refine yM rfl ?_|refine yE ?_
 repeat first|apply yX|apply yB
 rw [Zh4 qM acc] at hr1 hr2
 refine vQ ?_
 refine Jq (Zz (cs := [_, _, _]) Z1B .nil rfl rfl) ?_
 refine JO.m (Z3 rfl rfl qU qC qO Z1h) (by rfl) ?_
 refine Ja rfl ?_
 refine vS [2, 3] ?_
 refine vR ?_
 exact JX.retMC1is rfl HasOwn.mem rfl Z10 HasOwn.mem rfl rfl (by rw [← hr1]; rfl) (by rw [← hr1]) (by rw [← hr2]; rfl)
end Go.Proofs.YtbedigkncjbggaaGreatDoor
set_option maxRecDepth 20000
namespace Go.Proofs.YtbedigkncjbggaaGreatDoor
open Go Go.Vc
theorem Zap : ∀ (l acc : List UInt8), (textL l acc).2 ≤ l.length
 | [], _ => by simp [textL]
 | [b], acc => by
   unfold textL
   split <;> simp
 | b :: c :: l, acc => by
   have h1 := Zap l (acc ++ [c])
   have h2 := Zap (c :: l) (acc ++ [b])
   unfold textL
   split
   · split
     · simp
     · simp only [List.length_cons]; omega
   · simp only [List.length_cons] at h2 ⊢; omega
theorem Zhw (l : List UInt8) : (signL l).2 ≤ l.length := by
 unfold signL tryL
 split
 · rename_i h
   simp only [Bool.and_eq_true, decide_eq_true_eq] at h
   exact h.1
 · split
   · rename_i h
     simp only [Bool.and_eq_true, decide_eq_true_eq] at h
     exact h.1
   · exact Nat.zero_le _
theorem Z9H (l : List UInt8) : (stepL l).2 ≤ l.length := by
 cases l with
 | nil => exact Nat.zero_le _
 | cons b l =>
   rw [stepL]
   split
   · exact Z5D _ _
   · split
     · exact Z5D _ _
     · split
       · have := Zap l []
         simp only [List.length_cons]
         omega
       · exact Zhw _
theorem Z8J {b : UInt8} {l : List UInt8} (h : (stepL (b :: l)).1.2 = 0) : 1 ≤ (stepL (b :: l)).2 := by
 rw [stepL] at h ⊢
 by_cases h1 : letB b = true
 · rw [if_pos h1]
   have : wordB b = true := by unfold wordB; rw [h1]; rfl
   show 1 ≤ runN wordB (b :: l)
   unfold runN
   rw [if_pos this]
   omega
 rw [if_neg h1] at h ⊢
 by_cases h2 : digB b = true
 · rw [if_pos h2]
   show 1 ≤ runN digB (b :: l)
   unfold runN
   rw [if_pos h2]
   omega
 rw [if_neg h2] at h ⊢
 by_cases h3 : (b == 39) = true
 · rw [if_pos h3]
   exact Nat.le_add_left _ _
 rw [if_neg h3] at h ⊢
 unfold signL at h ⊢
 split at h
 · rename_i h4; rw [if_pos h4]; exact Nat.le_of_ble_eq_true rfl
 · rename_i h4
   rw [if_neg h4]
   split at h
   · rename_i h5; rw [if_pos h5]; exact Nat.le_refl _
   · cases h
theorem Z9j : ∀ (f g : Nat) (l : List UInt8), l.length < f → l.length < g → allG f l = allG g l
 | 0, _, _, h, _ => absurd h qM
 | _ + 1, 0, _, _, h => absurd h qM
 | f + 1, g + 1, l, hf, hg => by
   unfold allG
   cases hd : l.drop (runN isSp l) with
   | nil => rfl
   | cons b r =>
     dsimp only
     have hl : (b :: r).length ≤ l.length := by rw [← hd, List.length_drop]; omega
     by_cases he : (stepL (b :: r)).1.2 = 0
     · have hp := Z8J he
       have hle := Z9H (b :: r)
       have := Z9j f g ((b :: r).drop (stepL (b :: r)).2) (by rw [List.length_drop]; omega) (by rw [List.length_drop]; omega)
       rw [this]
     · rw [if_pos (by simpa using he), if_pos (by simpa using he)]
def allA (l : List UInt8) : List T3 × Int := allG (l.length + 1) l
def finA (xs : List T3) (r : List T3 × Int) : List T3 × Int := if (r.2 != 0) then ([], r.2) else (xs ++ r.1, 0)
theorem Zan : allA [] = ([], 0) := rfl
theorem Z3g (l : List UInt8) : allA (l.drop (runN isSp l)) = allA l := by
 have h1 : ∀ l : List UInt8, runN isSp (l.drop (runN isSp l)) = 0 := fun l => by
   induction l with
   | nil => rfl
   | cons b l ih =>
     by_cases hb : isSp b = true
     · have : runN isSp (b :: l) = runN isSp l + 1 := by rw [runN, if_pos hb]
       rw [this, List.drop_succ_cons]
       exact ih
     · have : runN isSp (b :: l) = 0 := by rw [runN, if_neg hb]
       rw [this, List.drop_zero]
       exact this
 unfold allA
 rw [Z9j ((l.drop (runN isSp l)).length + 1) (l.length + 1) _ qM (by rw [List.length_drop]; omega)]
 show allG (l.length + 1) (l.drop (runN isSp l)) = allG (l.length + 1) l
 rw [allG, allG, h1 l, List.drop_zero]
theorem ZdV (l : List UInt8) : runN isSp (l.drop (runN isSp l)) = 0 := by
 induction l with
 | nil => rfl
 | cons b l ih =>
   by_cases hb : isSp b = true
   · have : runN isSp (b :: l) = runN isSp l + 1 := by rw [runN, if_pos hb]
     rw [this, List.drop_succ_cons]
     exact ih
   · have : runN isSp (b :: l) = 0 := by rw [runN, if_neg hb]
     rw [this, List.drop_zero]
     exact this
theorem Z4V {l : List UInt8} (h0 : runN isSp l = 0) (hl : l ≠ []) :
   allA l = if ((stepL l).1.2 != 0) then ([], (stepL l).1.2) else finA [(stepL l).1.1] (allA (l.drop (stepL l).2)) := by
 cases l with
 | nil => exact absurd rfl hl
 | cons b r =>
   have e : allA (b :: r) = allG ((b :: r).length + 1) (b :: r) := rfl
   rw [e, allG, h0, List.drop_zero]
   dsimp only
   by_cases he : (stepL (b :: r)).1.2 = 0
   · have hb : ((stepL (b :: r)).1.2 != 0) = false := by simp [he]
     rw [hb]
     simp only [Bool.false_eq_true, if_false]
     have hp := Z8J he
     have hle := Z9H (b :: r)
     rw [Z9j (b :: r).length (((b :: r).drop (stepL (b :: r)).2).length + 1) _ (by rw [List.length_drop]; omega) qM]
     rfl
   · rw [if_pos (by simpa using he), if_pos (by simpa using he)]
theorem Zd2 (xs ys : List T3) (r : List T3 × Int) : finA xs (finA ys r) = finA (xs ++ ys) r := by
 unfold finA
 by_cases h : (r.2 != 0) = true
 · rw [if_pos h, if_pos h]; simp only; rw [if_pos h]
 · rw [if_neg h, if_neg h]
   simp
theorem ZgX : ∀ (f : Nat) (l : List UInt8), (allG f l).2 ≠ 0 → (allG f l).1 = []
 | 0, _, h => absurd rfl h
 | f + 1, l, h => by
   unfold allG at h ⊢
   cases hd : l.drop (runN isSp l) with
   | nil => rfl
   | cons b r =>
     rw [hd] at h
     dsimp only at h ⊢
     split at h
     · rename_i h1; rw [if_pos h1]
     · rename_i h1
       rw [if_neg h1]
       split at h
       · rename_i h2; rw [if_pos h2]
       · exact absurd rfl h
theorem Zcs (l : List UInt8) : finA [] (allA l) = allA l := by
 unfold finA
 by_cases h : ((allA l).2 != 0) = true
 · rw [if_pos h]
   have h2 : (allA l).2 ≠ 0 := by simpa using h
   have := ZgX _ _ h2
   exact Prod.ext this.symm rfl
 · rw [if_neg h]
   have : (allA l).2 = 0 := by simpa using h
   exact Prod.ext rfl this.symm
theorem Zgt {s : ByteArray} (h : s.size ≤ 2048) : finA [] (allA (dr s (0 + runN isSp (dr s 0)))) = lexL s.data.toList := by
 rw [Zcs, ← Z80, Z3g]
 unfold lexL
 rw [if_neg (by rw [Z1k]; simp; omega)]
 rfl
theorem Zgv (s : ByteArray) (i : Nat) : runN isSp (dr s (i + runN isSp (dr s i))) = 0 := by
 rw [← Z80]
 exact ZdV _
theorem ZhJ {s : ByteArray} {i : Nat} (h : i < s.size) : dr s i ≠ [] := by rw [Z3e h]; simp
theorem Zht {s : ByteArray} {i : Nat} {xs : List T3} {X : List T3 × Int} (h : i < s.size) (hsp : runN isSp (dr s i) = 0) (he : (stepL (dr s i)).1.2 = 0) (hr : finA xs (allA (dr s i)) = X) :
  finA (xs ++ [(stepL (dr s i)).1.1]) (allA (dr s (i + (stepL (dr s i)).2 + runN isSp (dr s (i + (stepL (dr s i)).2))))) = X := by
 rw [← Z80 s (i + (stepL (dr s i)).2), Z3g, ← Z80 s i, ← Zd2, ← hr, Z4V hsp (ZhJ h), if_neg (by simp [he])]
theorem Zi5 {s : ByteArray} {i : Nat} {xs : List T3} {X : List T3 × Int} (h : i < s.size) (hsp : runN isSp (dr s i) = 0) (he : (stepL (dr s i)).1.2 ≠ 0) (hr : finA xs (allA (dr s i)) = X) : X = ([], (stepL (dr s i)).1.2) := by
 rw [← hr, Z4V hsp (ZhJ h), if_pos (by simpa using he)]
 unfold finA
 rw [if_pos (by simpa using he)]
def takeV (x : UInt8) (b : Nat) : Value := .func (.func (if letB x then Z5n else if digB x then Z4E else if x == 39 then Z5d else Z58)) #[.pointer (some ⟨b, 0, none⟩)] #[]
theorem ZfB (s : ByteArray) (n : Nat) (hn : n < s.size) (hs : s.size ≤ 2048) (b : Nat) :
   MethV Tryz.prog b (takeV (by_ s n) b) Z1f (sv s n) [GF] [] (sv s (n + (stepL (dr s n)).2)) (.tup2 (.is (tv (stepL (dr s n)).1.1)) (.is (.int .i64 (stepL (dr s n)).1.2))) := by
 have e := Z3e hn
 unfold takeV
 by_cases h1 : letB (by_ s n) = true
 · rw [if_pos h1]
   have hst : stepL (dr s n) = (wordL ((dr s n).take (runN wordB (dr s n))), runN wordB (dr s n)) := by
     rw [e, stepL, if_pos h1]
   rw [hst]
   exact ⟨_, rfl, Z8z s n hn hs⟩
 rw [if_neg h1]
 by_cases h2 : digB (by_ s n) = true
 · rw [if_pos h2]
   have hst : stepL (dr s n) = (numL (dr s n), runN digB (dr s n)) := by
     rw [e, stepL, if_neg h1, if_pos h2]
   rw [hst]
   exact ⟨_, rfl, Z7w s n hn hs⟩
 rw [if_neg h2]
 by_cases h3 : (by_ s n == 39) = true
 · rw [if_pos h3]
   have hst : stepL (dr s n) = ((textL (dr s (n + 1)) []).1, (textL (dr s (n + 1)) []).2 + 1) := by
     rw [e, stepL, if_neg h1, if_neg h2, if_pos h3]
   rw [hst]
   have := Z8n s n hn hs
   rw [show n + 1 + (textL (dr s (n + 1)) []).2 = n + ((textL (dr s (n + 1)) []).2 + 1) by omega] at this
   exact ⟨_, rfl, this⟩
 rw [if_neg h3]
 have hst : stepL (dr s n) = signL (dr s n) := by
   rw [e, stepL, if_neg h1, if_neg h2, if_neg h3]
 rw [hst]
 exact ⟨_, rfl, Z8s s n hn hs⟩
end Go.Proofs.YtbedigkncjbggaaGreatDoor
set_option maxRecDepth 20000
namespace Go.Proofs.YtbedigkncjbggaaGreatDoor
open Go Go.Vc
theorem Z8M (s : ByteArray) (n : Nat) (hn : n < s.size) : CallMR Tryz.prog Z8B Z1f (sv s n) [GF] [] (sv s n) (fun b => .is (takeV (by_ s n) b)) :=
CallMR.of (fn := Tryz.f57) Tryz.func57 (n := 30) rfl rfl rfl (fun _ _ => by kernel_rfl) fun E W b0 => by
 refine vQ ?_
 refine Ja rfl ?_
 refine vS [0] ?_
 refine J.reg0 hmx qK qK ?_
 refine yz (Z2 rfl) ?_
 refine yz (Z5 rfl) ?_
 refine yz (Z0 ZM rfl) ?_
 refine yz (Z1 Z8 rfl rfl) ?_
 refine yz (Z2 rfl) ?_
 refine yz (Z5 rfl) ?_
 refine yz (Z0 Zg rfl) ?_
 refine yz (Z1 Zt rfl rfl) ?_
 refine yz (Z3K Zu rfl rfl qM qM) ?_
 refine yz (Z1s rfl) ?_
 apply yn
 refine FinS.nil0 ?_
 refine vS [0, 3] ?_
 apply yk
 refine vQ ?_
 refine Jm rfl (Jq (ZI rfl (Z6S (sb s n)) qA) ?_)
 refine Ja rfl ?_
 refine vS [0, 3, 13] ?_
 refine yC rfl (fun ht13 => ?_) (fun ht13 => ?_)
 try simp only [yd, yf] at ht13
 refine vQ ?_
 refine Jm rfl (Jq (Z3r (.cons rfl .nil) .nil) ?_)
 refine Ja rfl ?_
 refine vS [2] ?_
 refine vR ?_
 exact JX.retM1e rfl HasOwn.mem rfl (by unfold takeV; rw [if_pos (show letB (by_ s n) = true from ht13)]) (by rfl)
 try simp only [yd, yf] at ht13
 refine vQ ?_
 refine Jm rfl (Jq (ZI rfl (Z7v (sb s n)) qA) ?_)
 refine Ja rfl ?_
 refine vS [0, 3, 18] ?_
 refine yC rfl (fun ht18 => ?_) (fun ht18 => ?_)
 try simp only [yd, yf] at ht18
 refine vQ ?_
 refine Jm rfl (Jq (Z3r (.cons rfl .nil) .nil) ?_)
 refine Ja rfl ?_
 refine vS [2] ?_
 refine vR ?_
 exact JX.retM1e rfl HasOwn.mem rfl (by unfold takeV; rw [if_neg (show ¬ letB (by_ s n) = true by rw [show letB (by_ s n) = false from ht13]; simp), if_pos (show digB (by_ s n) = true from ht18)]) (by rfl)
 try simp only [yd, yf] at ht18
 refine vQ ?_
 refine Jm rfl (Jq (ZK rfl rfl) ?_)
 refine Ja rfl ?_
 refine vS [0, 23] ?_
 refine yC rfl (fun ht23 => ?_) (fun ht23 => ?_)
 try simp only [yd, yf] at ht23
 refine vQ ?_
 refine Jm rfl (Jq (Z3r (.cons rfl .nil) .nil) ?_)
 refine Ja rfl ?_
 refine vS [2] ?_
 refine vR ?_
 exact JX.retM1e rfl HasOwn.mem rfl (by unfold takeV; rw [if_neg (show ¬ letB (by_ s n) = true by rw [show letB (by_ s n) = false from ht13]; simp), if_neg (show ¬ digB (by_ s n) = true by rw [show digB (by_ s n) = false from ht18]; simp), if_pos (by rw [← q39]; exact ht23)]) (by rfl)
 try simp only [yd, yf] at ht23
 apply yK
 refine vN ?_
 apply yN
 refine Jm rfl (Jq (Z3r (.cons rfl .nil) .nil) ?_)
 refine Ja rfl ?_
 refine vS [2] ?_
 refine vR ?_
 exact JX.retM1e rfl HasOwn.mem rfl (by unfold takeV; rw [if_neg (show ¬ letB (by_ s n) = true by rw [show letB (by_ s n) = false from ht13]; simp), if_neg (show ¬ digB (by_ s n) = true by rw [show digB (by_ s n) = false from ht18]; simp), if_neg (by rw [← q39]; rw [show (((by_ s n).toNat : Int) == 39) = false from ht23]; simp)]) (by rfl)
theorem ZfA (s : ByteArray) : CallF Tryz.prog Zgk [GF] [.is (.string s)] (.tup2 (.rep (SlC T3.cells 3 (lexL s.data.toList).1)) (.is (.int .i64 (lexL s.data.toList).2))) :=
CallF.of (fn := Tryz.f24) Tryz.func24 (n := 39) rfl rfl rfl (fun _ _ => by kernel_rfl) fun E W => by
 refine vQ ?_
 refine Ja rfl (Ja rfl ?_)
 refine vP [0] ?_
 refine Jm rfl (Jq (Z3C Zu rfl) ?_)
 refine Jq (Z25 rfl rfl) ?_
 refine vS [0, 10] ?_
 refine yC rfl (fun ht10 => ?_) (fun ht10 => ?_)
 try simp only [yd, yf] at ht10
 have hx : lexL s.data.toList = ([], 30) := by unfold lexL; rw [if_pos (by rw [Z1k]; simpa using ht10)]
 refine vQ ?_
 refine Ja rfl (Ja rfl ?_)
 refine vS [2, 3] ?_
 refine vR ?_
 exact JX.ret2sub rfl rfl rfl (by rw [hx]; exact Sub.slNilC) rfl (Sub.isEq (by rw [hx]))
 try simp only [yd, yf] at ht10
 apply yK
 repeat first|apply yX|apply yB
 have hsz : s.size ≤ 2048 := by have h := ht10; omega
 have h0 : 0 + runN isSp (dr s 0) ≤ s.size := Zg4 (p := isSp) (Nat.zero_le _)
 refine vQ ?_
 refine Jm rfl (Jq (Zz (cs := [_, _]) Zbh (.cons rfl .nil) rfl rfl) ?_)
 refine JO.box rfl rfl fun b13 => ?_
 refine Ja rfl ?_
 refine vP [0, 4] ?_
 refine Ja rfl ?_
 refine vP [0, 4, 5] ?_
 refine Jm rfl ?_
 refine JO.md (Z8O rfl rfl (Z4X s 0 qM qM) qU (by simp) .nil) (by rfl) rfl ?_
 refine vS [0, 4, 5] ?_
 apply yk
 repeat apply yQ
 refine J.loopG (α := Nat × List T3 × Option (Nat × List Value) × Nat) (fun z => [(0, .is (.string s)), (4, .is (.pointer (some ⟨b13, 0, none⟩))), (5, .is (sliceO z.2.2.1 z.2.1.length z.2.2.2))]) (fun z => ⟨b13, Z1f, .is (sv s z.1)⟩ :: ownO z.2.2.1 Z2h []) (fun z => fun _ => True) (fun z => z.1 ≤ s.size ∧ (finA z.2.1 (allA (dr s z.1)) = lexL s.data.toList ∧ runN isSp (dr s z.1) = 0) ∧ Grows T3.cells 3 z.2.1 z.2.2.1 z.2.2.2 ∧ z.2.1.length ≤ z.1) (fun z => s.size - z.1) (0 + runN isSp (dr s 0), [], none, 0) [0, 4, 5] (.cons rfl (.cons rfl (.cons rfl .nil))) rfl (fun _ => trivial) ⟨h0, ⟨Zgt hsz, Zgv s 0⟩, rfl, by simp⟩ fun ⟨i, xs, st, cp⟩ ⟨hi, ⟨hr, hsp⟩, hG, hal⟩ => ?_
 try dsimp only
 try dsimp only at xs
 try dsimp only at st
 try dsimp only at cp
 try dsimp only at hi
 try dsimp only at hr
 try dsimp only at hsp
 try dsimp only at hG
 try dsimp only at hal
 refine vQ ?_
 refine Jm rfl (Jq (Z5 rfl) ?_)
 refine Jq (Z0 Zg rfl) ?_
 refine Jq (Z1 Zt rfl rfl) ?_
 refine Jm rfl (Jq (Z3C Zu rfl) ?_)
 refine Jq (ZU rfl rfl) ?_
 refine vS [0, 4, 5, 22] ?_
 refine yC rfl (fun ht22 => ?_) (fun ht22 => ?_)
 try simp only [yd, yf] at ht22
 apply yK
 refine vN ?_
 apply yk
 have hlt : i < s.size := by omega
 have hle : i + (stepL (dr s i)).2 ≤ s.size := by have := Z9H (dr s i); rw [Z9v] at this; omega
 refine vQ ?_
 refine Jm rfl ?_
 refine JO.md (Zg7 rfl rfl (Z8M s i qM) qU (by simp) .nil) (by rfl) rfl ?_
 refine JO.md (Zga rfl ((ZfB s i qM qM b13)) qU (by simp) .nil) (by rfl) rfl ?_
 refine Jm rfl (Jq (Z32 rfl) ?_)
 refine Jq (Z30 rfl) ?_
 refine JO.alloc Z2H rfl fun b6 => ?_
 refine JO.m (Z3 rfl rfl qU qC qO Z1h) (by rfl) ?_
 refine Ja rfl ?_
 refine vP [0, 4, 5, 6, 7] ?_
 refine Jm rfl (Jq (Z24 rfl rfl) ?_)
 refine vS [0, 4, 5, 6, 7, 32] ?_
 refine yC rfl (fun ht32 => ?_) (fun ht32 => ?_)
 try simp only [yd, yf] at ht32
 have hx := Zi5 hlt hsp (by simpa using ht32) hr
 refine vQ ?_
 refine Jm rfl (Ja rfl (Ja rfl ?_))
 refine vS [2, 3] ?_
 refine vR ?_
 exact JX.ret2sub rfl rfl rfl (by rw [hx]; exact Sub.slNilC) rfl (Sub.isEq (by rw [hx]))
 try simp only [yd, yf] at ht32
 apply yK
 repeat first|apply yX|apply yB
 have he0 : (stepL (dr s i)).1.2 = 0 := by simpa using ht32
 have hp1 : 1 ≤ (stepL (dr s i)).2 := by rw [Z3e hlt] at he0 ⊢; exact Z8J he0
 refine vQ ?_
 refine Jm rfl (Jq (ZF (cs := [_, _, _]) Z10 rfl rfl rfl) ?_)
 refine Jq (ZE (cs := [_, _, _]) ZaG qM qM (.cons rfl .nil) rfl rfl rfl) ?_
 refine JO.apP [(stepL (dr s i)).1.1] Zb6 T3.len (by repeat (first|exact .here|apply Cx.past|apply Cx.there)) hG rfl rfl (fun L => Z3k Z13 rfl rfl) (by simp) (by simp; omega) (by simp; omega) rfl (fun st1 cp1 hG1 => ?_)
 try dsimp only
 refine Ja rfl ?_
 refine vP [0, 4, 5] ?_
 refine Jm rfl ?_
 refine JO.md (Z8O rfl rfl (Z4X s (i + (stepL (dr s i)).2) qM qM) qU (by simp) .nil) (by rfl) rfl ?_
 apply yI
 repeat refine JX.normal_block ?_
 refine JX.roundG (x := ⟨i, xs, st, cp⟩) (i + (stepL (dr s i)).2 + runN isSp (dr s (i + (stepL (dr s i)).2)), xs ++ [(stepL (dr s i)).1.1], st1, cp1) ?_ ?_ [0, 4, 5] ?_ ?_ ?_ ?_
 · exact ⟨Zg4 (p := isSp) hle, ⟨Zht hlt hsp he0 hr, Zgv s (i + (stepL (dr s i)).2)⟩, hG1, by simp; omega⟩
 · exact (by simp only; omega)
 · exact qS
 · exact qH
 · exact qG
 · exact fun _ _ _ => fun _ _ => trivial
 try simp only [yd, yf] at ht22
 repeat apply yQ
 refine J.exit ?_
 repeat first|refine yH ?_|refine yM rfl ?_|refine yE ?_
 repeat first|apply yX|apply yB
 have hfin : lexL s.data.toList = (xs, 0) := by rw [← hr, Z9y qM]; simp [finA, Zan]
 refine J.freezeO T3.len hG (e := Z2h) yV (fun _ h => h) rfl rfl ?_
 refine vQ ?_
 refine Jm rfl (Ja rfl (Ja rfl ?_))
 refine vS [2, 3] ?_
 refine vR ?_
 exact JX.ret2sub rfl rfl rfl (by rw [hfin]; exact Sub.slOC hG qI) rfl (Sub.isEq (by rw [hfin]))
end Go.Proofs.YtbedigkncjbggaaGreatDoor
set_option maxRecDepth 20000
namespace Go.Proofs.YtbedigkncjbggaaGreatDoor
open Go Go.Vc
def capB (b : UInt8) : Bool := decide (65 ≤ (b.toNat : Int)) && decide ((b.toNat : Int) ≤ 90)
def lowC (q : Bool) (b : UInt8) : UInt8 := if !q && capB b then b + 32 else b
theorem ZcI : ∀ (f : Nat) (l : List UInt8), (allG f l).1.length ≤ f
 | 0, _ => Nat.le_refl _
 | f + 1, l => by
   unfold allG
   cases hd : l.drop (runN isSp l) with
   | nil => exact Nat.zero_le _
   | cons b r =>
     dsimp only
     split
     · exact Nat.zero_le _
     · split
       · exact Nat.zero_le _
       · have := ZcI f ((b :: r).drop (stepL (b :: r)).2)
         simp only [List.length_cons]
         omega
theorem Zdq (l : List UInt8) : (lexL l).1.length ≤ 2049 := by
 unfold lexL
 split
 · exact Nat.zero_le _
 · rename_i h
   have := ZcI (l.length + 1) l
   simp at h
   omega
end Go.Proofs.YtbedigkncjbggaaGreatDoor
set_option maxRecDepth 20000
namespace Go.Proofs.YtbedigkncjbggaaGreatDoor
open Go Go.Vc
theorem ZaR {p : UInt8 → Bool} (h : ∀ n : Nat, n < 256 → p (UInt8.ofNat n) = true) (b : UInt8) : p b = true := by
 have := h b.toNat b.toNat_lt
 rwa [UInt8.ofNat_toNat] at this
abbrev low (b : UInt8) : UInt8 := lowC false b
def lowOK (b : UInt8) : Bool := (isSp (low b) == isSp b) && (wordB (low b) == wordB b) && (digB (low b) == digB b) && (letB (low b) == letB b) && ((low b == 39) == (b == 39)) && (Lib.upperB (low b) == Lib.upperB b) && (Lib.lowerB (low b) == Lib.lowerB b) && (!digB b || low b == b) && (letB b || low b == b)
theorem Zjk (b : UInt8) : lowOK b = true := ZaR (p := lowOK) (by decide +kernel) b
theorem ZjZ (b : UInt8) : isSp (low b) = isSp b ∧ wordB (low b) = wordB b ∧ digB (low b) = digB b ∧ letB (low b) = letB b ∧ (low b == 39) = (b == 39) ∧ Lib.upperB (low b) = Lib.upperB b ∧ Lib.lowerB (low b) = Lib.lowerB b ∧ (digB b = true → low b = b) ∧ (letB b = false → low b = b) := by
 have h := Zjk b
 unfold lowOK at h
 simp only [Bool.and_eq_true, beq_iff_eq, Bool.or_eq_true, Bool.not_eq_true'] at h
 obtain ⟨⟨⟨⟨⟨⟨⟨⟨h1, h2⟩, h3⟩, h4⟩, h5⟩, h6⟩, h7⟩, h8⟩, h9⟩ := h
 refine ⟨h1, h2, h3, h4, h5, h6, h7, fun h => ?_, fun h => ?_⟩
 · rcases h8 with h8 | h8
   · rw [h] at h8; cases h8
   · exact h8
 · rcases h9 with h9 | h9
   · rw [h] at h9; cases h9
   · exact h9
theorem Z8X : ∀ {a l : List UInt8}, a.isPrefixOf l = true → ∀ x ∈ a, x ∈ l
 | [], _, _, x, h => by cases h
 | _ :: _, [], h, _, _ => by cases h
 | a :: ar, b :: br, h, x, hx => by
   simp only [List.isPrefixOf, Bool.and_eq_true, beq_iff_eq] at h
   rcases List.mem_cons.1 hx with rfl | hx
   · rw [h.1]; exact List.mem_cons_self
   · exact List.mem_cons_of_mem _ (Z8X h.2 x hx)
theorem ZcO {s sub : List UInt8} (h : Lib.contains s sub = true) : ∀ x ∈ sub, x ∈ s := fun x hx => by
 unfold Lib.contains at h
 have h := of_decide_eq_true h
 rcases Lib.index_spec s sub with ⟨h1, _⟩ | ⟨i, _, _, h3, _⟩
 · omega
 · exact List.mem_of_mem_drop (Z8X h3 x hx)
theorem ZfH {l : List UInt8} {q : Nat} {b : UInt8} (hb : b ∈ l.take q) (h : b ∉ sgB.data.toList) : tryL l q = false := by
 unfold tryL
 cases hc : Lib.contains sgB.data.toList (padL (l.take q))
 · simp
 · exact absurd (ZcO hc b (by unfold padL; simp; exact .inr (.inl hb))) h
end Go.Proofs.YtbedigkncjbggaaGreatDoor
set_option maxRecDepth 20000
namespace Go.Proofs.YtbedigkncjbggaaGreatDoor
open Go Go.Vc
theorem Zaq (p : UInt8 → Bool) (l m : List UInt8) : (l ++ m).take (runN p l) = l.take (runN p l) := List.take_append_of_le_length (Z5D p l)
theorem ZcM (p : UInt8 → Bool) (l m : List UInt8) : (l ++ m).drop (runN p l) = l.drop (runN p l) ++ m := List.drop_append_of_le_length (Z5D p l)
end Go.Proofs.YtbedigkncjbggaaGreatDoor
set_option maxRecDepth 100000
namespace Go.Proofs.YtbedigkncjbggaaGreatDoor
open Go Go.Vc
abbrev zs (k : Nat) : ByteArray := bl (List.replicate k 122)
abbrev ys (k : Nat) : ByteArray := bl (39 :: List.replicate k 121)
def n1 : ByteArray := ⟨#[48, 48, 48, 48, 48, 57, 50, 50, 51, 51, 55, 50, 48, 51, 54, 56, 53, 52, 55, 55, 53, 56, 48, 55]⟩
def n2 : ByteArray := ⟨#[57, 50, 50, 51, 51, 55, 50, 48, 51, 54, 56, 53, 52, 55, 55, 53, 56, 48, 56]⟩
def n3 : ByteArray := ⟨#[57, 50, 50, 51, 51, 55, 50, 48, 51, 54, 56, 53, 52, 55, 55, 53, 56, 48, 56, 97]⟩
def part (i n : Nat) : List Value := List.replicate i (.int .u8 32) ++ List.replicate (n - i) (.int .u8 0)
end Go.Proofs.YtbedigkncjbggaaGreatDoor
set_option maxRecDepth 100000
namespace Go.Proofs.YtbedigkncjbggaaGreatDoor
open Go Go.Vc
def strC (s : ByteArray) : List Value := [.string s]
theorem Z2a (s : ByteArray) : (strC s).length = 1 := rfl
theorem ZhZ : ∀ b ∈ sgB.data.toList, ∀ c ∈ sgB.data.toList, b ≠ 32 → tryL [b, c] 2 = ((([b, c] : List UInt8) == [60, 62]) ||(([b, c] : List UInt8) == [60, 61]) ||(([b, c] : List UInt8) == [62, 61])) := by decide +kernel
theorem Zjp {b c : UInt8} (hb : b ≠ 32) : tryL [b, c] 2 = ((([b, c] : List UInt8) == [60, 62]) ||(([b, c] : List UInt8) == [60, 61]) ||(([b, c] : List UInt8) == [62, 61])) := by
 by_cases h1 : b ∈ sgB.data.toList
 · by_cases h2 : c ∈ sgB.data.toList
   · exact ZhZ b h1 c h2 hb
   · rw [ZfH (b := c) (by simp) h2]
     have hc : c ≠ 62 ∧ c ≠ 61 := ⟨fun e => h2 (by rw [e]; decide +kernel), fun e => h2 (by rw [e]; decide +kernel)⟩
     simp [hc.1, hc.2]
 · rw [ZfH (b := b) (by simp) h1]
   have hc : b ≠ 60 ∧ b ≠ 62 := ⟨fun e => h1 (by rw [e]; decide +kernel), fun e => h1 (by rw [e]; decide +kernel)⟩
   simp [hc.1, hc.2]
def quoF : List UInt8 → List UInt8 → Option (List UInt8 × Nat)
 | [], _ => none
 | [b], acc => if b == 39 then some (acc, 1) else none
 | b :: c :: l, acc => if b == 39 then (if c != 39 then some (acc, 1) else (quoF l (acc ++ [c])).map fun r => (r.1, r.2 + 2)) else (quoF (c :: l) (acc ++ [b])).map fun r => (r.1, r.2 + 1)
theorem ZaE : ∀ (l acc : List UInt8), (quoF l acc = none → (textL l acc).1 = (t3D, 30)) ∧ (∀ r, quoF l acc = some r → textL l acc = (endT r.1, r.2))
 | [], acc => ⟨fun _ => rfl, fun r h => by cases h⟩
 | [b], acc => by
   by_cases hq : (b == 39) = true
   · have e1 : quoF [b] acc = some (acc, 1) := by rw [quoF, if_pos hq]
     have e2 : textL [b] acc = (endT acc, 1) := by rw [textL, if_pos hq]
     rw [e1, e2]
     exact ⟨fun h => (by cases h), fun r h => (by injection h with h; subst h; rfl)⟩
   · have e1 : quoF [b] acc = none := by rw [quoF, if_neg hq]
     have e2 : textL [b] acc = ((t3D, 30), 1) := by rw [textL, if_neg hq]
     rw [e1, e2]
     exact ⟨fun _ => rfl, fun r h => (by cases h)⟩
 | b :: c :: l, acc => by
   obtain ⟨a1, a2⟩ := ZaE l (acc ++ [c])
   obtain ⟨b1, b2⟩ := ZaE (c :: l) (acc ++ [b])
   by_cases hq : (b == 39) = true
   · by_cases hc : (c != 39) = true
     · have e1 : quoF (b :: c :: l) acc = some (acc, 1) := by rw [quoF, if_pos hq, if_pos hc]
       have e2 : textL (b :: c :: l) acc = (endT acc, 1) := by rw [textL, if_pos hq, if_pos hc]
       rw [e1, e2]
       exact ⟨fun h => (by cases h), fun r h => (by injection h with h; subst h; rfl)⟩
     · have e1 : quoF (b :: c :: l) acc = (quoF l (acc ++ [c])).map fun r => (r.1, r.2 + 2) := by rw [quoF, if_pos hq, if_neg hc]
       have e2 : textL (b :: c :: l) acc = ((textL l (acc ++ [c])).1, (textL l (acc ++ [c])).2 + 2) := by rw [textL, if_pos hq, if_neg hc]
       rw [e1, e2]
       refine ⟨fun h => a1 (Option.map_eq_none_iff.1 h), fun r h => ?_⟩
       obtain ⟨q, hq, e⟩ := Option.map_eq_some_iff.1 h
       subst e
       rw [a2 q hq]
   · have e1 : quoF (b :: c :: l) acc = (quoF (c :: l) (acc ++ [b])).map fun r => (r.1, r.2 + 1) := by rw [quoF, if_neg hq]
     have e2 : textL (b :: c :: l) acc = ((textL (c :: l) (acc ++ [b])).1, (textL (c :: l) (acc ++ [b])).2 + 1) := by rw [textL, if_neg hq]
     rw [e1, e2]
     refine ⟨fun h => b1 (Option.map_eq_none_iff.1 h), fun r h => ?_⟩
     obtain ⟨q, hq, e⟩ := Option.map_eq_some_iff.1 h
     subst e
     rw [b2 q hq]
end Go.Proofs.YtbedigkncjbggaaGreatDoor
