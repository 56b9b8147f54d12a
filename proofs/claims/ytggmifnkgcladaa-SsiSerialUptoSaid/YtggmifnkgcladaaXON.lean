/- one: one call on both; the answers. No condition. -/
import Derived.Test.YtggmifnkgcladaaXLA
import Derived.Test.YtggmifnkgcladaaXN5
import Derived.Test.YtggmifnkgcladaaXG6
set_option maxRecDepth 20000
namespace Go.Proofs.Ytggmifnkgcladaa
open Go Go.Vc
open Go.Si Go.Vl
def OneR (e : Int) (x : WrA) (v : Value) (w : World) : Prop := v = .tuple #[.int .i64 e, .int .i64 e] ∧ WrF [x] w
abbrev v9 : V3 := ⟨9, 0, ⟨#[]⟩⟩
def sO (sn : Option (Nat × List Value)) (cs : List Value) : Option (Nat × List Value) := match sn with | none => none | some p => some (p.1, cs)
def rvS (xs : List V3) (st : Option (Nat × List Value)) (cap : Nat) : Value := .slice (adO st) (if st.isSome then xs.length else 0) (capO st cap)
structure OneS (o : OpA) (vs : Value) (e nb : Int) (ZS : Type) (LS : List Own) (LSf : ZS → List Own) (ΦS : List (World → Prop)) (PS : ZS → WrA → Prop) : Prop where
  ob : AllOb LS
  obf : ∀ z, AllOb (LSf z)
  b : o.k = 1 → e = 0 ∧ CallL Try.prog f_p_ssi_Set_Begin LS ΦS [.is vs] (fun z => PS z wr0) LSf (fun _ => .is (.int .i64 nb))
  r : o.k = 2 → CallL Try.prog f_p_ssi_Set_Read LS ΦS [.is vs, .is (.int .i64 o.t), .is (rdA o.r)] (fun z => PS z wr0) LSf (fun _ => .is (.int .i64 e))
  w : o.k = 3 → ∀ so sn co cn, Grows V3.cells 3 o.w.o.row so co → Grows V3.cells 3 o.w.n.row sn cn → so.isSome = o.w.o.a.isSome → sn.isSome = o.w.n.a.isSome → CallL Try.prog f_p_ssi_Set_Write (LS ++ (RW so ++ RW sn)) ΦS [.is vs, .is (.int .i64 o.t), .is (wrV (wG o.w.t o.w.o.row o.w.n.row so sn co cn))] (fun z : ZS × WrA => PS z.1 z.2) (fun z => LSf z.1 ++ (RW so ++ RW sn)) (fun z => .rep (WrR' e z.2))
  c : o.k = 4 → CallL Try.prog f_p_ssi_Set_Commit LS ΦS [.is vs, .is (.int .i64 o.t)] (fun z => PS z wr0) LSf (fun _ => .is (.int .i64 e))
  a : o.k = 5 → CallL Try.prog f_p_ssi_Set_Abort LS ΦS [.is vs, .is (.int .i64 o.t)] (fun z => PS z wr0) LSf (fun _ => .is (.int .i64 e))
  n : o.k ≠ 1 → o.k ≠ 2 → o.k ≠ 3 → o.k ≠ 4 → o.k ≠ 5 → e = 0 ∧ ∃ z0, PS z0 wr0 ∧ LSf z0 = LS
structure OneT (o : OpA) (vr : Value) (e nb : Int) (ZR : Type) (LR : List Own) (LRf : ZR → List Own) (ΦR : List (World → Prop)) (PR : ZR → Prop) : Prop where
  ob : AllOb LR
  obf : ∀ z, AllOb (LRf z)
  b : o.k = 1 → CallL Try.prog f_p_ref20_Set_Begin LR ΦR [.is vr] PR LRf (fun _ => .is (.int .i64 nb))
  r : o.k = 2 → CallL Try.prog f_p_ref20_Set_Read LR ΦR [.is vr, .is (.int .i64 o.t), .is (rdA o.r)] PR LRf (fun _ => .is (.int .i64 e))
  w : o.k = 3 → CallL Try.prog f_p_ref20_Set_Write LR ΦR [.is vr, .is (.int .i64 o.t), .is (wrV o.w)] PR LRf (fun _ => .is (.int .i64 e))
  c : o.k = 4 → CallL Try.prog f_p_ref20_Set_Commit LR ΦR [.is vr, .is (.int .i64 o.t)] PR LRf (fun _ => .is (.int .i64 e))
  a : o.k = 5 → CallL Try.prog f_p_ref20_Set_Abort LR ΦR [.is vr, .is (.int .i64 o.t)] PR LRf (fun _ => .is (.int .i64 e))
  n : o.k ≠ 1 → o.k ≠ 2 → o.k ≠ 3 → o.k ≠ 4 → o.k ≠ 5 → ∃ z0, PR z0 ∧ LRf z0 = LR
end Go.Proofs.Ytggmifnkgcladaa
