/- The program logic, part 9. No condition. -/
import Derived.Test.YtbedigkncjbggaaDoorXG7
namespace Go.Vc
open Go
variable{P:Program}{c:Ctx}{K K' K0:List (Nat×Ty)}{L L' L0 Lr Lq Lm Lk:List Own}{Φ Φ0:List (World->Prop)}{Q:Exit->Act->World->Prop}{H:Know}{dst:Option Nat}{ty:TypeId}{pos:String}{after:Array Edge}{g:Option (Nat×Bool)}{ops:Array Oper}{rest:List Oper}{fn:Func}{n:Nat}{X:Nat->Prop}{W:World}{op:Op}{f:FuncId}{As:List Ty}{T:Ty}{Z:Type}{Zp:Z->Prop}{L1:Z->List Own}{R:Z->Ty}{Bad:Prop}{ch:List PanicEntry}
section
variable{yt:TypeId}{x y:Operand}
end
noncomputable def eqD{α:Type}(a b:α):Bool:=@decide (a=b) (Classical.propDecidable _)
section
variable{d:Nat}
end
theorem J.cutZF{Z:Type}(Kf:Z->List (Nat×Ty))(Lf:Z->List Own)(Ff:Z->World->Prop)(inv:Z->Prop){x y:Code}(h:J P c K L Φ x (Exit.then (fun a w=>∃z,inv z/\ ∃E,SA c (Kf z) (Lf z) (Ff z::Φ) E a w) Q))(hy: ∀z,inv z->J P c (Kf z) (Lf z) (Ff z::Φ) y Q):J P c K L Φ x (Exit.then (y.wp P Q) Q):=
 ⟨fun E a w hs=>wp_mono (h.out E a w hs) fun e a w hq=>by
   cases e with
   |normal=>
     obtain⟨z,hz,E,hs⟩:=hq;exact(hy z hz).out E a w hs
   |_=>exact hq⟩
theorem JX.midF{Z:Type}{Kf:Z->List (Nat×Ty)}{Lf:Z->List Own}{Ff:Z->World->Prop}{inv:Z->Prop}{Φ':List (World->Prop)}(z:Z)(hi:inv z)(ss:List Nat)(hK:Sel K ss (Kf z))(hL:Has L (Lf z))(hΦ: ∀G∈Φ',G∈Φ)(hF: ∀E w,(∀G∈Φ,Pers E w G)->Pers E w (Ff z)):
   JX c K L Φ .normal (Exit.then (fun a w=>∃z,inv z/\ ∃E,SA c (Kf z) (Lf z) (Ff z::Φ') E a w) Q):=
 ⟨fun E a w hs=>⟨z,hi,E,by
   have h1:=hs.sub hK.look hL.mem (hL.nodup hs.ld) hΦ;exact⟨h1.n,h1.d,h1.wf,h1.k,h1.l,h1.ld,fun G hG=>by
     rcases List.mem_cons.1 hG with rfl|hG
     · exact hF E w hs.f
     · exact h1.f G hG,h1.x,h1.xs,h1.keeps,h1.may⟩⟩⟩
end Go.Vc
