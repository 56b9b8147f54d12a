/- The closed facts on the types of the program. No condition. -/
import Derived.Test.YtbedigkncjbggaaDoorProg
import Derived.Test.YtbedigkncjbggaaDoorXG7
import Derived.Test.YtbedigkncjbggaaDoorXG3
import Derived.Shelf.Strings.OnBuilder
import Derived.Shelf.Small.Strs
import Derived.Shelf.Strings.Search3
import Derived.Shelf.Strings.Fields
namespace Go.Vc
open Go
abbrev yX:=@JX.next
abbrev yB:=@JX.normal_block
abbrev yP:=@JX.ret_pass
abbrev yR:=@JX.ret_block
abbrev yH:=@JX.hit
abbrev yM:=@JX.miss
abbrev yE:=@JX.exit_pass
abbrev yQ:=@J.seq
abbrev yN:=@J.plain
abbrev yI:=@JO.nil
abbrev yh:=@List.mem_cons_self
abbrev yx:=@List.mem_cons_of_mem
abbrev yc:=@List.mem_cons
theorem yd{p:Prop}[Decidable p]:(decide p=true)=p:=decide_eq_true_eq
theorem yf{p:Prop}[Decidable p]:(decide p=false)↔ ¬p:=decide_eq_false_iff_not
theorem ya{α:Type _}{l:List α}:[]++l=l:=rfl
theorem yb{α:Type _}{a:α}{l k:List α}:(a::l)++k=a::(l++k):=rfl
abbrev yU:=@Upd.there
abbrev yi:=@ZQ
abbrev ye:=@Z3S
abbrev yo:=@Z2N
abbrev yJ:=@JO.t
abbrev yL:=@J.sel
abbrev yC:=@J.cond
abbrev yT:=@J.ret
abbrev yK:=@J.skip
abbrev yk:=@J.block
abbrev yn:=@RT.nil
abbrev yz:=@RT.t
abbrev yg:=@RT.g
end Go.Vc
namespace Go.Vc
open Go
theorem qF{p:Prop}(h:p:=by intro F hF;repeat(first|(rcases yc.1 hF with rfl|hF;· (repeat first|exact yh|apply yx))|(cases hF;done))):p:=h
theorem qI{p:Prop}(h:p:=by repeat first|exact yh|apply yx):p:=h
theorem qU{p:Prop}(h:p:=by repeat first|exact .here|apply yU):p:=h
theorem qC{p:Prop}(h:p:=by first|exact yi rfl rfl|exact ye):p:=h
theorem qO{p:Prop}(h:p:=by first|exact yi rfl rfl|exact ye|exact yo):p:=h
theorem qM{p:Prop}(h:p:=by omega):p:=h
theorem qD{p:Prop}(h:p:=by decide):p:=h
theorem qX{p:Prop}(h:p:=by first|(simp[binR, *];done)|(simp[binG, *];done)|(simp[opOf, *];done)|simp[binR,binG,opOf, *]):p:=h
theorem qN{p:Prop}(h:p:=by assumption):p:=h
theorem qP{p:Prop}(h:p:=by first|exact List.Perm.refl _|exact List.perm_middle (l₁:=[])|exact List.perm_middle (l₁:=[_])|exact List.perm_middle (l₁:=[_,_])|exact List.perm_middle (l₁:=[_,_,_])|exact List.perm_middle (l₁:=[_,_,_,_])):p:=h
theorem qW{p:Prop}(h:p:=by first|exact hus|(refine List.IsSuffix.trans ?_ hus;(repeat(first|exact List.suffix_refl _|assumption|exact Rv.suf (by assumption)|exact InvW.suf (by assumption)|exact skRB_suf|(refine List.IsSuffix.trans skRB_suf ?_)|(refine List.IsSuffix.trans (List.tail_suffix _) ?_)|(refine List.IsSuffix.trans (Rv.suf (by assumption)) ?_)|(refine List.IsSuffix.trans (InvW.suf (by assumption)) ?_))))):p:=h
theorem vD{G H:Prop}(n:H)(h:H->G:=by intro n;(try dsimp only[ya,yb]);exact n):G:=h n
theorem qK{p:Prop}(h:p:=by kernel_rfl):p:=h
theorem yV{p:Prop}(h:p:=by repeat first|exact .here|apply Tl.past|apply Tl.there):p:=h
theorem qS{p:Prop}(h:p:=by repeat first|exact .nil|apply Sel.cons rfl):p:=h
theorem qA{p:Prop}(h:p:=by repeat first|exact .nil|apply Args.one rfl):p:=h
theorem qG{p:Prop}(h:p:=by exact fun G hG=>by repeat(first|exact hG|refine List.mem_cons_of_mem _ ?_)):p:=h
theorem qH{p:Prop}(h:p:=by repeat(first|exact .all|exact .nil|refine Has.own (by repeat first|exact .here|apply Tl.past|apply Tl.there) ?_|refine Has.cons (by repeat(first|exact .here|apply Pk.past|apply Pk.there)) ?_)):p:=h
theorem qB{p:Prop}(h:p:=by repeat(first|exact .slnil|exact List.Sublist.refl _|apply List.Sublist.cons_cons|apply List.Sublist.cons)):p:=h
theorem qR{π:Prop}{K:List (Nat×Ty)}{x:Operand}{T:Ty}(h:opTy K x=some (.opt π T)):KnG π K x T:=.inr ⟨_,h,fun h=>h⟩
def yG(_:List Nat):Prop:=True
section
variable{P:Program}{c:Ctx}{K K0:List (Nat×Ty)}{L:List Own}{Φ:List (World->Prop)}{x:Code}{Q:Exit->Act->World->Prop}{ops:Array Oper}{rest:List Oper}{op:Op}{d:Nat}{ty:TypeId}{pos:String}{after:Array Edge}{T:Ty}{u:Operand}
theorem yS{s:List Nat}(_:yG s)(h:Sel K s K0)(hj:J P c K0 L Φ x Q):J P c K L Φ x Q:=J.sel s h hj
theorem Jq(h:Ob P L Φ (Kn K) ⟨some d,op,ty,pos,after,none⟩ T)(n:JO P c ((d,T)::K) L Φ ops rest Q)(hd:Nat.blt d c.n=true:=by exact rfl):JO P c K L Φ ops (⟨some d,op,ty,pos,after,none⟩::rest) Q:=JO.t h hd n
theorem Jm(h:Kn K u T)(n:JO P c ((d,T)::K) L Φ ops rest Q)(hd:Nat.blt d c.n=true:=by exact rfl):JO P c K L Φ ops (⟨some d,.move u,ty,pos,after,none⟩::rest) Q:=JO.t (Z1 h) hd n
theorem Ja(h:Kn K u T)(n:JO P c ((d,T)::K) L Φ ops rest Q)(hd:Nat.blt d c.n=true:=by exact rfl):JO P c K L Φ ops (⟨some d,.assign u,ty,pos,after,none⟩::rest) Q:=JO.t (Z2i h) hd n
end
theorem vN{G H:Prop}(n:H)(h:H->G:=by intro n;(repeat first|apply yI|apply yX|apply yB);(repeat apply yQ);exact n):G:=h n
theorem vS(s:List Nat){G H:Prop}(n:H)(h:yG s->H->G:=by intro t n;(repeat first|apply yI|apply yX|apply yB);refine yS t (by repeat first|exact .nil|apply Sel.cons rfl) ?_;(repeat apply yQ);exact n):G:=h trivial n
theorem vP(s:List Nat){G H:Prop}(n:H)(h:yG s->H->G:=by intro t n;(repeat first|apply yI|apply yX|apply yB);refine yS t (by repeat first|exact .nil|apply Sel.cons rfl) ?_;(repeat apply yQ);apply yN;exact n):G:=h trivial n
theorem vR{G H:Prop}(n:H)(h:H->G:=by intro n;(repeat apply yQ);apply yT;(repeat first|apply yP|apply yR);exact n):G:=h n
theorem vQ{G H:Prop}(n:H)(h:H->G:=by intro n;(repeat apply yQ);apply yN;exact n):G:=h n
end Go.Vc
namespace Go.Vc
open Go
theorem qZ{p:Prop}(h:p:=by first|decide|(simp only[Z4i,List.length_append,List.length_cons,List.length_nil];omega)|omega|(simp only[Z4i,List.length_append,List.length_cons,List.length_nil]at*;omega)):p:=h
end Go.Vc
namespace Go.Proofs.YtbedigkncjbggaaDoor
open Go Go.Vc
abbrev Z6X:Nat:=3
abbrev Z8O:Nat:=4
abbrev Z2q:Nat:=5
abbrev Zbw:Nat:=6
abbrev Z1F:Nat:=7
abbrev Z2r:Nat:=8
abbrev Z5o:Nat:=9
abbrev Z5A:Nat:=10
abbrev Z9J:Nat:=11
abbrev Z5z:Nat:=12
abbrev Z6l:Nat:=13
abbrev Z1X:Nat:=14
abbrev Z1Y:Nat:=15
abbrev Z27:Nat:=16
abbrev Z1V:Nat:=17
abbrev Z1W:Nat:=18
abbrev Z90:Nat:=19
abbrev Z5q:Nat:=20
abbrev Z5D:Nat:=21
abbrev Z3A:Nat:=22
abbrev Z6D:Nat:=23
abbrev Z9u:Nat:=24
abbrev Z3q:Nat:=25
abbrev Z7l:Nat:=26
abbrev Z32:Nat:=27
abbrev Z3v:Nat:=28
abbrev Z3w:Nat:=29
abbrev Z5G:Nat:=30
abbrev Z3a:Nat:=31
abbrev Z4e:Nat:=32
abbrev Z2W:Nat:=33
abbrev Z5k:Nat:=34
abbrev Z5R:Nat:=35
abbrev Z4K:Nat:=36
abbrev Z1K:Nat:=37
abbrev Z4N:Nat:=38
abbrev Zn:Nat:=39
abbrev Z5V:Nat:=40
abbrev Z3d:Nat:=41
abbrev Z4M:Nat:=42
abbrev Z5f:Nat:=43
abbrev Z5C:Nat:=44
abbrev Z6j:Nat:=45
abbrev Z3n:Nat:=46
abbrev Z6C:Nat:=47
abbrev Z2B:Nat:=48
abbrev ZZ:Nat:=49
abbrev Z6B:Nat:=51
abbrev Z34:Nat:=52
abbrev Z7e:Nat:=53
abbrev Z6H:Nat:=54
abbrev Z7g:Nat:=55
abbrev Z4Q:Nat:=56
abbrev Z4z:Nat:=57
abbrev Z5e:Nat:=58
abbrev Z1L:Nat:=59
abbrev Z9f:Nat:=71
abbrev Z1d:Nat:=72
abbrev Z1N:Nat:=82
abbrev Z1t:Nat:=93
abbrev Z14:Nat:=98
abbrev Z1I:Nat:=99
abbrev Z7S:Nat:=100
abbrev Z4x:Nat:=101
abbrev Zcv:Nat:=2
abbrev Z3V:Nat:=3
abbrev Zd1:Nat:=4
abbrev Z2k:Nat:=5
abbrev Z55:Nat:=9
abbrev Z7J:Nat:=23
abbrev Z9r:Nat:=24
abbrev Z7b:Nat:=25
abbrev Z8c:Nat:=26
abbrev Z5w:Nat:=28
abbrev Z93:Nat:=29
abbrev Zs:Nat:=31
abbrev Z1s:Nat:=32
abbrev Z4:Nat:=39
abbrev Zag:Nat:=41
abbrev Z5Q:Nat:=46
abbrev Z1H:Nat:=50
abbrev ZJ:Nat:=58
abbrev Z1r:Nat:=60
abbrev Z6q:Nat:=71
abbrev ZaU:Nat:=73
abbrev Z38:Nat:=79
theorem Z7H:ApTy Tryd.prog 23 79 4 32:=⟨by kernel_rfl,by kernel_rfl⟩
theorem Z1S:ApTy Tryd.prog 28 39 8 104:=⟨by kernel_rfl,by kernel_rfl⟩
theorem Z8n:ApTy Tryd.prog 26 41 9 112:=⟨by kernel_rfl,by kernel_rfl⟩
theorem Z8P:ApTy Tryd.prog 29 73 9 112:=⟨by kernel_rfl,by kernel_rfl⟩
theorem Z7I:ApTy Tryd.prog 27 71 3 56:=⟨by kernel_rfl,by kernel_rfl⟩
theorem Z7T:ApTy Tryd.prog 42 60 3 32:=⟨by kernel_rfl,by kernel_rfl⟩
theorem Z7h:ApTy Tryd.prog 25 28 1 24:=⟨by kernel_rfl,by kernel_rfl⟩
theorem Z9B:ApTy Tryd.prog 24 9 1 16:=⟨by kernel_rfl,by kernel_rfl⟩
theorem Z7t:ApTy Tryd.prog 103 5 1 1:=⟨by kernel_rfl,by kernel_rfl⟩
theorem Z2R:elSize Tryd.prog 28=some 8:=by kernel_rfl
theorem Z5X:elSize Tryd.prog 26=some 9:=by kernel_rfl
theorem Z94:elSize Tryd.prog 29=some 9:=by kernel_rfl
theorem Z7E:elSize Tryd.prog 27=some 3:=by kernel_rfl
theorem ZH:elSize Tryd.prog 42=some 3:=by kernel_rfl
theorem ZbS:elSize Tryd.prog 107=some 1:=by kernel_rfl
theorem Z2Z:elSize Tryd.prog 25=some 1:=by kernel_rfl
theorem Z3k:elSize Tryd.prog 24=some 1:=by kernel_rfl
theorem Za7:elSize Tryd.prog 103=some 1:=by kernel_rfl
theorem Z2E:fldOff Tryd.prog 79 1=some 1:=by kernel_rfl
theorem Z3m:fldOff Tryd.prog 79 2=some 2:=by kernel_rfl
theorem Z2A:fldOff Tryd.prog 79 3=some 3:=by kernel_rfl
theorem Z92:fldOff Tryd.prog 39 0=some 0:=by kernel_rfl
theorem Z8W:fldOff Tryd.prog 39 2=some 4:=by kernel_rfl
theorem Z6n:fldOff Tryd.prog 39 3=some 5:=by kernel_rfl
theorem Z8Y:fldOff Tryd.prog 39 5=some 7:=by kernel_rfl
theorem Z8R:fldOff Tryd.prog 41 0=some 0:=by kernel_rfl
theorem Z91:fldOff Tryd.prog 41 1=some 1:=by kernel_rfl
theorem Z9w:fldOff Tryd.prog 73 0=some 0:=by kernel_rfl
theorem Z9a:fldOff Tryd.prog 73 1=some 8:=by kernel_rfl
theorem Z7U:fldOff Tryd.prog 71 1=some 1:=by kernel_rfl
theorem Z57:fldOff Tryd.prog 71 2=some 2:=by kernel_rfl
theorem Z6s:fldOff Tryd.prog 31 0=some 0:=by kernel_rfl
theorem Z6y:fldOff Tryd.prog 31 1=some 1:=by kernel_rfl
theorem Z3K:fldOff Tryd.prog 31 10=some 10:=by kernel_rfl
theorem Z5U:fldOff Tryd.prog 31 11=some 11:=by kernel_rfl
theorem Z3N:fldOff Tryd.prog 31 12=some 12:=by kernel_rfl
theorem Z8m:fldOff Tryd.prog 31 13=some 13:=by kernel_rfl
theorem Z8X:fldOff Tryd.prog 31 2=some 2:=by kernel_rfl
theorem Z6t:fldOff Tryd.prog 31 3=some 3:=by kernel_rfl
theorem Z46:fldOff Tryd.prog 31 4=some 4:=by kernel_rfl
theorem Z2u:fldOff Tryd.prog 31 5=some 5:=by kernel_rfl
theorem Z36:fldOff Tryd.prog 31 6=some 6:=by kernel_rfl
theorem Z1Z:fldOff Tryd.prog 31 7=some 7:=by kernel_rfl
theorem Z2s:fldOff Tryd.prog 31 8=some 8:=by kernel_rfl
theorem Z6v:fldOff Tryd.prog 31 9=some 9:=by kernel_rfl
theorem Z1R:fldOff Tryd.prog 60 0=some 0:=by kernel_rfl
theorem Z3B:fldOff Tryd.prog 60 1=some 1:=by kernel_rfl
theorem Z8q:fldOff Tryd.prog 60 2=some 2:=by kernel_rfl
theorem Zv:fldOff Tryd.prog 58 0=some 0:=by kernel_rfl
theorem Z6:fldOff Tryd.prog 58 1=some 1:=by kernel_rfl
theorem Z8:fldOff Tryd.prog 50 0=some 0:=by kernel_rfl
theorem Z8V:Shape Tryd.prog 79 (fun i=> #[(0,1),(1,1),(2,1),(3,1)][i]?) [.string ⟨#[]⟩,.int .i64 0,.bool false,.bool false]:=⟨fun _=>by kernel_rfl⟩
theorem Z3O:Shape Tryd.prog 39 (fun i=> #[(0,1),(1,3),(4,1),(5,1),(6,1),(7,1)][i]?) [.int .i64 0,.int .i64 0,.int .i64 0,.string ⟨#[]⟩,.string ⟨#[]⟩,.string ⟨#[]⟩,.int .i64 0,.slice none 0 0]:=⟨fun _=>by kernel_rfl⟩
theorem Z7i:Shape Tryd.prog 41 (fun i=> #[(0,1),(1,8)][i]?) [.bool false,.int .i64 0,.int .i64 0,.int .i64 0,.string ⟨#[]⟩,.string ⟨#[]⟩,.string ⟨#[]⟩,.int .i64 0,.slice none 0 0]:=⟨fun _=>by kernel_rfl⟩
theorem ZaR:Shape Tryd.prog 73 (fun i=> #[(0,8),(8,1)][i]?) [.int .i64 0,.int .i64 0,.int .i64 0,.string ⟨#[]⟩,.string ⟨#[]⟩,.string ⟨#[]⟩,.int .i64 0,.slice none 0 0,.bool false]:=⟨fun _=>by kernel_rfl⟩
theorem Z8Z:Shape Tryd.prog 71 (fun i=> #[(0,1),(1,1),(2,1)][i]?) [.string ⟨#[]⟩,.string ⟨#[]⟩,.slice none 0 0]:=⟨fun _=>by kernel_rfl⟩
theorem Z1y:Shape Tryd.prog 31 (fun i=> #[(0,1),(1,1),(2,1),(3,1),(4,1),(5,1),(6,1),(7,1),(8,1),(9,1),(10,1),(11,1),(12,1),(13,1)][i]?) [.int .i64 0,.string ⟨#[]⟩,.string ⟨#[]⟩,.slice none 0 0,.slice none 0 0,.slice none 0 0,.slice none 0 0,.slice none 0 0,.slice none 0 0,.slice none 0 0,.slice none 0 0,.int .i64 0,.slice none 0 0,.bool false]:=⟨fun _=>by kernel_rfl⟩
theorem ZX:Shape Tryd.prog 60 (fun i=> #[(0,1),(1,1),(2,1)][i]?) [.int .i64 0,.string ⟨#[]⟩,.int .i64 0]:=⟨fun _=>by kernel_rfl⟩
theorem Z2K:Shape Tryd.prog 37 (fun i=> #[(0,1),(1,1),(2,1)][i]?) [.int .i64 0,.int .i64 0,.string ⟨#[]⟩]:=⟨fun _=>by kernel_rfl⟩
theorem Z8h:Shape Tryd.prog 58 (fun i=> #[(0,1),(1,1)][i]?) [.string ⟨#[]⟩,.int .i64 0]:=⟨fun _=>by kernel_rfl⟩
theorem Z5t:Shape Tryd.prog 46 (fun i=> #[][i]?) []:=⟨fun _=>by kernel_rfl⟩
theorem Z51:Shape Tryd.prog 50 (fun i=> #[(0,1)][i]?) [.slice none 0 0]:=⟨fun _=>by kernel_rfl⟩
theorem Z7O:SlShape Tryd.prog 23 79 4 [.string ⟨#[]⟩,.int .i64 0,.bool false,.bool false]:=⟨by kernel_rfl,by kernel_rfl,by omega⟩
theorem ZK:SlShape Tryd.prog 28 39 8 [.int .i64 0,.int .i64 0,.int .i64 0,.string ⟨#[]⟩,.string ⟨#[]⟩,.string ⟨#[]⟩,.int .i64 0,.slice none 0 0]:=⟨by kernel_rfl,by kernel_rfl,by omega⟩
theorem Z8i:SlShape Tryd.prog 26 41 9 [.bool false,.int .i64 0,.int .i64 0,.int .i64 0,.string ⟨#[]⟩,.string ⟨#[]⟩,.string ⟨#[]⟩,.int .i64 0,.slice none 0 0]:=⟨by kernel_rfl,by kernel_rfl,by omega⟩
theorem Z8Q:SlShape Tryd.prog 29 73 9 [.int .i64 0,.int .i64 0,.int .i64 0,.string ⟨#[]⟩,.string ⟨#[]⟩,.string ⟨#[]⟩,.int .i64 0,.slice none 0 0,.bool false]:=⟨by kernel_rfl,by kernel_rfl,by omega⟩
theorem Z4D:SlShape Tryd.prog 27 71 3 [.string ⟨#[]⟩,.string ⟨#[]⟩,.slice none 0 0]:=⟨by kernel_rfl,by kernel_rfl,by omega⟩
theorem Z80:SlShape Tryd.prog 42 60 3 [.int .i64 0,.string ⟨#[]⟩,.int .i64 0]:=⟨by kernel_rfl,by kernel_rfl,by omega⟩
theorem Z59:SlShape Tryd.prog 107 3 1 [.int .i64 0]:=⟨by kernel_rfl,by kernel_rfl,by omega⟩
theorem Z49:SlShape Tryd.prog 25 28 1 [.slice none 0 0]:=⟨by kernel_rfl,by kernel_rfl,by omega⟩
theorem Z1A:SlShape Tryd.prog 24 9 1 [.string ⟨#[]⟩]:=⟨by kernel_rfl,by kernel_rfl,by omega⟩
theorem Z7n:SlShape Tryd.prog 103 5 1 [.int .u8 0]:=⟨by kernel_rfl,by kernel_rfl,by omega⟩
theorem Z2v:(Tryd.prog.info? 79).map (·.size)=some 4:=by kernel_rfl
theorem Z2I:(Tryd.prog.info? 32).map (·.size)=some 1:=by kernel_rfl
theorem Zf:(Tryd.prog.info? 39).map (·.size)=some 8:=by kernel_rfl
theorem Z5n:(Tryd.prog.info? 41).map (·.size)=some 9:=by kernel_rfl
theorem Z4f:(Tryd.prog.info? 73).map (·.size)=some 9:=by kernel_rfl
theorem Z2t:(Tryd.prog.info? 71).map (·.size)=some 3:=by kernel_rfl
theorem Zk:(Tryd.prog.info? 31).map (·.size)=some 14:=by kernel_rfl
theorem ZN:(Tryd.prog.info? 60).map (·.size)=some 3:=by kernel_rfl
theorem Z2S:(Tryd.prog.info? 4).map (·.size)=some 1:=by kernel_rfl
theorem Z30:(Tryd.prog.info? 3).map (·.size)=some 1:=by kernel_rfl
theorem Z5T:(Tryd.prog.info? 46).map (·.size)=some 0:=by kernel_rfl
theorem Z7v:(Tryd.prog.info? 23).map (·.size)=some 1:=by kernel_rfl
theorem Z2f:(Tryd.prog.info? 28).map (·.size)=some 1:=by kernel_rfl
theorem Z8j:(Tryd.prog.info? 26).map (·.size)=some 1:=by kernel_rfl
theorem Z8T:(Tryd.prog.info? 29).map (·.size)=some 1:=by kernel_rfl
theorem Z4p:(Tryd.prog.info? 27).map (·.size)=some 1:=by kernel_rfl
theorem Z2D:(Tryd.prog.info? 42).map (·.size)=some 1:=by kernel_rfl
theorem Z48:(Tryd.prog.info? 25).map (·.size)=some 1:=by kernel_rfl
theorem Z4q:(Tryd.prog.info? 24).map (·.size)=some 1:=by kernel_rfl
theorem Z3e:(Tryd.prog.info? 9).map (·.size)=some 1:=by kernel_rfl
theorem Z1u:szOf Tryd.prog 79=some (some 4):=by kernel_rfl
theorem Z1D:szOf Tryd.prog 32=some none:=by kernel_rfl
theorem Z7:szOf Tryd.prog 39=some (some 8):=by kernel_rfl
theorem Z5g:szOf Tryd.prog 41=some (some 9):=by kernel_rfl
theorem Z3u:szOf Tryd.prog 73=some (some 9):=by kernel_rfl
theorem Z22:szOf Tryd.prog 71=some (some 3):=by kernel_rfl
theorem Zm:szOf Tryd.prog 31=some (some 14):=by kernel_rfl
theorem ZF:szOf Tryd.prog 60=some (some 3):=by kernel_rfl
theorem Z9F:szOf Tryd.prog 37=some (some 3):=by kernel_rfl
theorem Zdj:szOf Tryd.prog 4=some none:=by kernel_rfl
theorem Zy:szOf Tryd.prog 3=some none:=by kernel_rfl
theorem Zcn:szOf Tryd.prog 2=some none:=by kernel_rfl
theorem Z7A:szOf Tryd.prog 23=some none:=by kernel_rfl
theorem ZW:szOf Tryd.prog 28=some none:=by kernel_rfl
theorem Z3G:szOf Tryd.prog 26=some none:=by kernel_rfl
theorem Z6u:szOf Tryd.prog 29=some none:=by kernel_rfl
theorem Z2n:szOf Tryd.prog 27=some none:=by kernel_rfl
theorem Zj:szOf Tryd.prog 42=some none:=by kernel_rfl
theorem Z2Y:szOf Tryd.prog 25=some none:=by kernel_rfl
theorem ZC:szOf Tryd.prog 9=some none:=by kernel_rfl
theorem ZcB:szOf Tryd.prog 5=some none:=by kernel_rfl
theorem Z5E:Tryd.prog.underlying 4=some .bool:=by kernel_rfl
theorem ZdC:Tryd.prog.underlying 3=some (.int .i64):=by kernel_rfl
theorem Zcj:Tryd.prog.underlying 2=some (.int .i64):=by kernel_rfl
theorem Zd:Tryd.prog.underlying 66=some (.map 9 64):=by kernel_rfl
theorem ZR:Tryd.prog.underlying 172=some (.map 9 3):=by kernel_rfl
theorem Z4t:Tryd.prog.underlying 23=some (.slice 79):=by kernel_rfl
theorem ZY:Tryd.prog.underlying 28=some (.slice 39):=by kernel_rfl
theorem Z3y:Tryd.prog.underlying 26=some (.slice 41):=by kernel_rfl
theorem Z44:Tryd.prog.underlying 29=some (.slice 73):=by kernel_rfl
theorem Z2j:Tryd.prog.underlying 27=some (.slice 71):=by kernel_rfl
theorem ZG:Tryd.prog.underlying 42=some (.slice 60):=by kernel_rfl
theorem Z2a:Tryd.prog.underlying 25=some (.slice 28):=by kernel_rfl
theorem Z2J:Tryd.prog.underlying 24=some (.slice 9):=by kernel_rfl
theorem Z2w:Tryd.prog.underlying 103=some (.slice 5):=by kernel_rfl
theorem Zi:Tryd.prog.underlying 9=some .string:=by kernel_rfl
theorem Z4v:Tryd.prog.underlying 5=some (.int .u8):=by kernel_rfl
theorem Z6r:zeroOf Tryd.prog 79=some (.agg #[.string ⟨#[]⟩,.int .i64 0,.bool false,.bool false]):=by kernel_rfl
theorem Z9n:zeroOf Tryd.prog 32=some (.int .i64 0):=by kernel_rfl
theorem ZM:zeroOf Tryd.prog 39=some (.agg #[.int .i64 0,.int .i64 0,.int .i64 0,.string ⟨#[]⟩,.string ⟨#[]⟩,.string ⟨#[]⟩,.int .i64 0,.slice none 0 0]):=by kernel_rfl
theorem Z7r:zeroOf Tryd.prog 41=some (.agg #[.bool false,.int .i64 0,.int .i64 0,.int .i64 0,.string ⟨#[]⟩,.string ⟨#[]⟩,.string ⟨#[]⟩,.int .i64 0,.slice none 0 0]):=by kernel_rfl
theorem Z65:zeroOf Tryd.prog 73=some (.agg #[.int .i64 0,.int .i64 0,.int .i64 0,.string ⟨#[]⟩,.string ⟨#[]⟩,.string ⟨#[]⟩,.int .i64 0,.slice none 0 0,.bool false]):=by kernel_rfl
theorem Z37:zeroOf Tryd.prog 71=some (.agg #[.string ⟨#[]⟩,.string ⟨#[]⟩,.slice none 0 0]):=by kernel_rfl
theorem ZE:zeroOf Tryd.prog 31=some (.agg #[.int .i64 0,.string ⟨#[]⟩,.string ⟨#[]⟩,.slice none 0 0,.slice none 0 0,.slice none 0 0,.slice none 0 0,.slice none 0 0,.slice none 0 0,.slice none 0 0,.slice none 0 0,.int .i64 0,.slice none 0 0,.bool false]):=by kernel_rfl
theorem Z1C:zeroOf Tryd.prog 60=some (.agg #[.int .i64 0,.string ⟨#[]⟩,.int .i64 0]):=by kernel_rfl
theorem Z3i:zeroOf Tryd.prog 64=some (.nilFunc):=by kernel_rfl
theorem ZbE:zeroOf Tryd.prog 3=some (.int .i64 0):=by kernel_rfl
theorem Z3E:zeroOf Tryd.prog 46=some (.agg #[]):=by kernel_rfl
theorem hmx:Tryd.prog.follows .mixedOrders=true:=by kernel_rfl
end Go.Proofs.YtbedigkncjbggaaDoor
namespace Go.Pz
open Go Go.Vc
abbrev w_OR:ByteArray:=⟨#[79,82]⟩
abbrev Z3P:ByteArray:=⟨#[65,78,68]⟩
abbrev Z2l:ByteArray:=⟨#[78,79,84]⟩
abbrev w_IS:ByteArray:=⟨#[73,83]⟩
abbrev Z4B:ByteArray:=⟨#[78,85,76,76]⟩
abbrev ZdV:ByteArray:=⟨#[84,82,85,69]⟩
abbrev Zd5:ByteArray:=⟨#[70,65,76,83,69]⟩
abbrev Z4k:ByteArray:=⟨#[67,79,85,78,84]⟩
abbrev Z96:ByteArray:=⟨#[83,85,77]⟩
abbrev Z99:ByteArray:=⟨#[77,73,78]⟩
abbrev Z98:ByteArray:=⟨#[77,65,88]⟩
abbrev Z76:ByteArray:=⟨#[84,65,66,76,69]⟩
abbrev ZaF:ByteArray:=⟨#[73,78,68,69,88]⟩
abbrev w_ON:ByteArray:=⟨#[79,78]⟩
abbrev Z5H:ByteArray:=⟨#[85,83,73,78,71]⟩
abbrev ZbR:ByteArray:=⟨#[72,65,83,72]⟩
abbrev ZaS:ByteArray:=⟨#[73,78,84]⟩
abbrev Z9N:ByteArray:=⟨#[66,79,79,76]⟩
abbrev Z9E:ByteArray:=⟨#[84,69,88,84]⟩
abbrev Z2M:ByteArray:=⟨#[80,82,73,77,65,82,89]⟩
abbrev ZaO:ByteArray:=⟨#[75,69,89]⟩
abbrev Z2G:ByteArray:=⟨#[85,78,73,81,85,69]⟩
abbrev ZbY:ByteArray:=⟨#[73,78,84,79]⟩
abbrev Z7N:ByteArray:=⟨#[86,65,76,85,69,83]⟩
abbrev Z6P:ByteArray:=⟨#[70,82,79,77]⟩
abbrev ZO:ByteArray:=⟨#[73,78,78,69,82]⟩
abbrev Z3T:ByteArray:=⟨#[74,79,73,78]⟩
abbrev Z71:ByteArray:=⟨#[87,72,69,82,69]⟩
abbrev Z4h:ByteArray:=⟨#[71,82,79,85,80]⟩
abbrev w_BY:ByteArray:=⟨#[66,89]⟩
abbrev Z4g:ByteArray:=⟨#[79,82,68,69,82]⟩
abbrev Z4j:ByteArray:=⟨#[76,73,77,73,84]⟩
abbrev Z7V:ByteArray:=⟨#[65,83,67]⟩
abbrev Z6J:ByteArray:=⟨#[68,69,83,67]⟩
abbrev w_AS:ByteArray:=⟨#[65,83]⟩
abbrev ZcV:ByteArray:=⟨#[83,69,84]⟩
abbrev Z4l:ByteArray:=⟨#[67,82,69,65,84,69]⟩
abbrev Z4u:ByteArray:=⟨#[73,78,83,69,82,84]⟩
abbrev Z4n:ByteArray:=⟨#[83,69,76,69,67,84]⟩
abbrev Z4F:ByteArray:=⟨#[85,80,68,65,84,69]⟩
abbrev Z4H:ByteArray:=⟨#[68,69,76,69,84,69]⟩
abbrev Z5B:ByteArray:=⟨#[66,69,71,73,78]⟩
abbrev Z4A:ByteArray:=⟨#[67,79,77,77,73,84]⟩
abbrev Z3j:ByteArray:=⟨#[82,79,76,76,66,65,67,75]⟩
abbrev s_lp:ByteArray:=⟨#[40]⟩
abbrev s_rp:ByteArray:=⟨#[41]⟩
abbrev Z2z:ByteArray:=⟨#[44]⟩
abbrev Z5P:ByteArray:=⟨#[59]⟩
abbrev Z25:ByteArray:=⟨#[42]⟩
abbrev Za0:ByteArray:=⟨#[43]⟩
abbrev Z3C:ByteArray:=⟨#[45]⟩
abbrev Z8o:ByteArray:=⟨#[47]⟩
abbrev Zb0:ByteArray:=⟨#[37]⟩
abbrev s_eq:ByteArray:=⟨#[61]⟩
abbrev s_ne:ByteArray:=⟨#[60,62]⟩
abbrev s_lt:ByteArray:=⟨#[60]⟩
abbrev s_le:ByteArray:=⟨#[60,61]⟩
abbrev s_gt:ByteArray:=⟨#[62]⟩
abbrev s_ge:ByteArray:=⟨#[62,61]⟩
abbrev Z79:ByteArray:=⟨#[46]⟩
def sq(a b:ByteArray):Bool:=a.data.toList==b.data.toList
theorem Z4G(a b:ByteArray):seq a b=sq a b:=by unfold seq sq;rw[ByteArray.toList_eq,ByteArray.toList_eq]
abbrev Ps(α:Type):=List T3->Option (α×List T3)
def isT(k:Int)(s:ByteArray):List T3->Bool
 |t::_=>(t.k==k)&&sq t.t s
 |[]=>false
def skT(k:Int)(s:ByteArray)(ts:List T3):List T3:=if isT k s ts then ts.tail else ts
def wantP(k:Int)(s:ByteArray):Ps Unit:=fun ts=>if isT k s ts then some ((),ts.tail)else none
def takeP(k:Int):Ps T3
 |t::r=>if t.k==k then some (t,r)else none
 |[]=>none
def nameP:Ps ByteArray:=fun ts=>(takeP 2 ts).map fun z=>(z.1.t,z.2)
abbrev em:ByteArray:=⟨#[]⟩
abbrev nd(k:Int)(kids:List Ex):Ex:=.mk k 0 0 em em em 0 kids
abbrev lit(vk vn:Int)(vs:ByteArray):Ex:=.mk 1 vk vn vs em em 0 []
abbrev ex0:Ex:=.mk 0 0 0 em em em 0 []
def opOf(k:Int):List (ByteArray×Int)->List T3->Option Int
 |[],_=>none
 |(s,n)::l,ts=>if isT k s ts then some n else opOf k l ts
def chainG(part:Ps Ex)(k:Int)(ops:List (ByteArray×Int)):Nat->Ex->Ps Ex
 |0,x,ts=>some (x,ts)
 |n+1,x,ts=>match opOf k ops ts with
   |none=>some (x,ts)
   |some q=>(part ts.tail).bind fun z=>chainG part k ops n (nd q [x,z.1]) z.2
def chainP(part:Ps Ex)(k:Int)(ops:List (ByteArray×Int)):Ps Ex:=fun ts=>(part ts).bind fun z=>chainG part k ops z.2.length z.1 z.2
abbrev mulO:List (ByteArray×Int):=[(Z25,7),(Z8o,8),(Zb0,9)]
abbrev addO:List (ByteArray×Int):=[(Za0,5),(Z3C,6)]
abbrev cmpO:List (ByteArray×Int):=[(s_eq,10),(s_ne,11),(s_lt,12),(s_le,13),(s_gt,14),(s_ge,15)]
def aggK(s:ByteArray):Option Int:=if sq s Z4k then some 20 else if sq s Z96 then some 21 else if sq s Z99 then some 22 else if sq s Z98 then some 23 else none
def kwP(e:Ps Ex):Ps Ex:=fun ts=>(takeP 1 ts).bind fun z=>
 if sq z.1.t ZdV then some (lit 2 1 em,z.2)
 else if sq z.1.t Zd5 then some (lit 2 0 em,z.2)
 else if sq z.1.t Z4B then some (lit 0 0 em,z.2)
 else match aggK z.1.t with
   |none=>none
   |some q=>(wantP 5 s_lp z.2).bind fun y=>
     if sq z.1.t Z4k&&isT 5 Z25 y.2 then(wantP 5 s_rp y.2.tail).map fun v=>(nd 20 [],v.2)
     else(e y.2).bind fun x=>(wantP 5 s_rp x.2).map fun v=>(nd q [x.1],v.2)
def atomP(e:Ps Ex):Ps Ex
 |[]=>none
 |t::r=>
   if t.k==3 then some (lit 1 t.n em,r)
   else if t.k==4 then some (lit 3 0 t.t,r)
   else if t.k==2 then(if isT 5 Z79 r then(nameP r.tail).map fun z=>(.mk 2 0 0 em t.t z.1 0 [],z.2)else some (.mk 2 0 0 em em t.t 0 [],r))
   else if t.k==1 then kwP e (t::r)
   else(wantP 5 s_lp (t::r)).bind fun y=>(e y.2).bind fun x=>(wantP 5 s_rp x.2).map fun v=>(x.1,v.2)
def factorP(e:Ps Ex):Ps Ex
 |[]=>atomP e []
 |t::r=>if isT 5 Z3C (t::r)then(factorP e r).map fun z=>(nd 3 [z.1],z.2)else atomP e (t::r)
def prodP(e:Ps Ex):Ps Ex:=chainP (factorP e) 5 mulO
def sumP(e:Ps Ex):Ps Ex:=chainP (prodP e) 5 addO
def cmpP(e:Ps Ex)(x:Ex):Ps Ex:=fun ts=>match opOf 5 cmpO ts with
 |some q=>(sumP e ts.tail).map fun z=>(nd q [x,z.1],z.2)
 |none=>if isT 1 w_IS ts then(if isT 1 Z2l ts.tail then(wantP 1 Z4B ts.tail.tail).map fun v=>(nd 19 [x],v.2)else(wantP 1 Z4B ts.tail).map fun v=>(nd 18 [x],v.2))else some (x,ts)
def notP(e:Ps Ex):Ps Ex
 |[]=>(sumP e []).bind fun z=>cmpP e z.1 z.2
 |t::r=>if isT 1 Z2l (t::r)then(notP e r).map fun z=>(nd 4 [z.1],z.2)else(sumP e (t::r)).bind fun z=>cmpP e z.1 z.2
def andP(e:Ps Ex):Ps Ex:=chainP (notP e) 1 [(Z3P,16)]
def orP(e:Ps Ex):Ps Ex:=chainP (andP e) 1 [(w_OR,17)]
def exprP:Nat->Ps Ex
 |0=>fun _=>none
 |n+1=>orP (exprP n)
def exprX:Ps Ex:=fun ts=>exprP (ts.length+1) ts
def listG{α:Type}(part:Ps α):Nat->Ps (List α)
 |0,ts=>some ([],ts)
 |n+1,ts=>if isT 5 Z2z ts then(part ts.tail).bind fun z=>(listG part n z.2).map fun y=>(z.1::y.1,y.2)else some ([],ts)
def listP{α:Type}(most:Nat)(part:Ps α):Ps (List α):=fun ts=>(part ts).bind fun z=>(listG part z.2.length z.2).bind fun y=>if y.1.length+1<=most then some (z.1::y.1,y.2)else none
def withinP{α:Type}(part:Ps α):Ps (List α):=fun ts=>(wantP 5 s_lp ts).bind fun a=>(listP 16 part a.2).bind fun l=>(wantP 5 s_rp l.2).map fun v=>(l.1,v.2)
structure Col where
 nm:ByteArray
 ty:Int
 nn:Bool
 un:Bool
structure Src where
 tb:ByteArray
 nm:ByteArray
 on:List Ex
structure Itm where
 all:Bool
 ex:Ex
structure Ky where
 ex:Ex
 desc:Bool
structure St where
 kind:Int
 tb:ByteArray
 nm:ByteArray
 cols:List Col
 names:List ByteArray
 rows:List (List Ex)
 items:List Itm
 from_:List Src
 where_:List Ex
 group:List Ex
 order:List Ky
 limit:Int
 sets:List Ex
 hash:Bool
def st0:St:=⟨0,em,em,[],[],[],[],[],[],[],[],0,[],false⟩
def stK(k:Int):St:=⟨k,em,em,[],[],[],[],[],[],[],[],-1,[],false⟩
def typeP:Ps Int:=fun ts=>if isT 1 ZaS ts then some (1,ts.tail)else if isT 1 Z9N ts then some (2,ts.tail)else if isT 1 Z9E ts then some (3,ts.tail)else none
def colEnd(n:ByteArray)(t:Int)(nn:Bool):Ps Col:=fun ts=>
 if isT 1 Z2M ts then(wantP 1 ZaO ts.tail).map fun v=>(⟨n,t,true,true⟩,v.2)else some (⟨n,t,nn,isT 1 Z2G ts⟩,skT 1 Z2G ts)
def colP:Ps Col:=fun ts=>(nameP ts).bind fun n=>(typeP n.2).bind fun t=>
 if isT 1 Z2l t.2 then(wantP 1 Z4B t.2.tail).bind fun v=>colEnd n.1 t.1 true v.2 else colEnd n.1 t.1 false t.2
def createP:Ps St:=fun ts=>
 if isT 1 Z76 ts then(nameP ts.tail).bind fun n=>(withinP colP n.2).map fun c=>({stK 1 with tb:=n.1,cols:=c.1},c.2)
 else(wantP 1 ZaF ts).bind fun a=>(nameP a.2).bind fun n=>(wantP 1 w_ON n.2).bind fun b=>(nameP b.2).bind fun t=>(wantP 5 s_lp t.2).bind fun c=>(nameP c.2).bind fun m=>(wantP 5 s_rp m.2).bind fun d=>
   if isT 1 Z5H d.2 then(wantP 1 ZbR d.2.tail).map fun v=>({stK 2 with nm:=n.1,tb:=t.1,names:=[m.1],hash:=true},v.2)
   else some ({stK 2 with nm:=n.1,tb:=t.1,names:=[m.1]},d.2)
def isLp:List T3->Bool
 |t::_=>(t.k==5)&&(sq t.t s_lp&&(t.n==0))
 |[]=>false
def insRows(e:Ps Ex)(tb:ByteArray)(ns:List ByteArray):Ps St:=fun ts=>(wantP 1 Z7N ts).bind fun a=>(listP 32 (withinP e) a.2).map fun r=>({stK 3 with tb:=tb,names:=ns,rows:=r.1},r.2)
def insertP(e:Ps Ex):Ps St:=fun ts=>(wantP 1 ZbY ts).bind fun a=>(nameP a.2).bind fun n=>
 if isLp n.2 then(withinP nameP n.2).bind fun l=>insRows e n.1 l.1 l.2 else insRows e n.1 [] n.2
def itemP(e:Ps Ex):Ps Itm:=fun ts=>if isT 5 Z25 ts then some (⟨true,ex0⟩,ts.tail)else(e ts).map fun z=>(⟨false,z.1⟩,z.2)
def isK(k:Int):List T3->Bool
 |t::_=>t.k==k
 |[]=>false
def sourceP:Ps Src:=fun ts=>(nameP ts).bind fun n=>
 if isT 1 w_AS n.2 then(nameP n.2.tail).map fun m=>(⟨n.1,m.1,[]⟩,m.2)
 else if isK 2 n.2 then(nameP n.2).map fun m=>(⟨n.1,m.1,[]⟩,m.2)else some (⟨n.1,n.1,[]⟩,n.2)
def keyP(e:Ps Ex):Ps Ky:=fun ts=>(e ts).map fun z=>if isT 1 Z7V z.2 then(⟨z.1,false⟩,z.2.tail)else(⟨z.1,isT 1 Z6J z.2⟩,skT 1 Z6J z.2)
def whereP(e:Ps Ex):Ps (List Ex):=fun ts=>if isT 1 Z71 ts then(e ts.tail).map fun z=>([z.1],z.2)else some ([],ts)
def joinP(e:Ps Ex):Ps Src:=fun ts=>(wantP 1 Z3T ts).bind fun a=>(sourceP a.2).bind fun s=>(wantP 1 w_ON s.2).bind fun b=>(e b.2).map fun x=>({s.1 with on:=[x.1]},x.2)
def joinsG(e:Ps Ex):Nat->Ps (List Src)
 |0,ts=>some ([],ts)
 |n+1,ts=>if isT 1 ZO ts||isT 1 Z3T ts then(joinP e (skT 1 ZO ts)).bind fun s=>(joinsG e n s.2).map fun y=>(s.1::y.1,y.2)else some ([],ts)
def groupP(e:Ps Ex):Ps (List Ex):=fun ts=>if isT 1 Z4h ts then(wantP 1 w_BY ts.tail).bind fun a=>listP 16 e a.2 else some ([],ts)
def orderP(e:Ps Ex):Ps (List Ky):=fun ts=>if isT 1 Z4g ts then(wantP 1 w_BY ts.tail).bind fun a=>listP 16 (keyP e) a.2 else some ([],ts)
def limitP:Ps Int:=fun ts=>if isT 1 Z4j ts then(takeP 3 ts.tail).map fun z=>(z.1.n,z.2)else some (-1,ts)
def queryP(e:Ps Ex):Ps St:=fun ts=>(listP 16 (itemP e) ts).bind fun i=>(wantP 1 Z6P i.2).bind fun a=>(sourceP a.2).bind fun s=>(joinsG e s.2.length s.2).bind fun j=>
 if j.1.length+1<=4 then(whereP e j.2).bind fun w=>(groupP e w.2).bind fun g=>(orderP e g.2).bind fun o=>(limitP o.2).map fun l=>
  ({stK 4 with items:=i.1,from_:=s.1::j.1,where_:=w.1,group:=g.1,order:=o.1,limit:=l.1},l.2)
 else none
def setP(e:Ps Ex):Ps (ByteArray×Ex):=fun ts=>(nameP ts).bind fun n=>(wantP 5 s_eq n.2).bind fun a=>(e a.2).map fun x=>((n.1,x.1),x.2)
def updateP(e:Ps Ex):Ps St:=fun ts=>(nameP ts).bind fun n=>(wantP 1 ZcV n.2).bind fun a=>(listP 16 (setP e) a.2).bind fun l=>(whereP e l.2).map fun w=>
 ({stK 5 with tb:=n.1,names:=l.1.map (·.1),sets:=l.1.map (·.2),where_:=w.1},w.2)
def removeP(e:Ps Ex):Ps St:=fun ts=>(wantP 1 Z6P ts).bind fun a=>(nameP a.2).bind fun n=>(whereP e n.2).map fun w=>({stK 6 with tb:=n.1,where_:=w.1},w.2)
def stmtP(e:Ps Ex):Ps St:=fun ts=>(takeP 1 ts).bind fun w=>
 if sq w.1.t Z4l then createP w.2 else if sq w.1.t Z4u then insertP e w.2 else if sq w.1.t Z4n then queryP e w.2
 else if sq w.1.t Z4F then updateP e w.2 else if sq w.1.t Z4H then removeP e w.2
 else if sq w.1.t Z5B then some (stK 7,w.2)else if sq w.1.t Z4A then some (stK 8,w.2)else if sq w.1.t Z3j then some (stK 9,w.2)else none
mutual
def hgt:Ex->Nat
 | .mk _ _ _ _ _ _ _ kids=>hgts kids+1
def hgts:List Ex->Nat
 |[]=>0
 |x::xs=>max (hgt x) (hgts xs)
end
def exsOf(s:St):List Ex:=s.rows.flatten++s.items.map (·.ex)++(s.from_.map (·.on)).flatten++s.order.map (·.ex)++s.where_++s.group++s.sets
def deepS(s:St):Bool:=(exsOf s).any fun x=>decide (32<hgt x)
def wholeP(ts:List T3):Option St:=(stmtP (exprP (ts.length+1)) ts).bind fun z=>match skT 5 Z5P z.2 with|[]=>some z.1|_::_=>none
def readT(ts:List T3):St×Int:=match wholeP ts with
 |none=>(st0,30)
 |some s=>if deepS s then(st0,31)else(s,0)
def readS(l:List T3×Int):St×Int:=if l.2==0 then readT l.1 else(st0,l.2)
end Go.Pz
namespace Go.Pz
open Go Go.Vc
def Lt(r ts:List T3):Prop:=r<:+ts/\r.length<ts.length
theorem Lt.trans{a b c:List T3}(h:Lt a b)(k:b<:+c):Lt a c:=⟨h.1.trans k,Nat.lt_of_lt_of_le h.2 k.length_le⟩
theorem Lt.trans'{a b c:List T3}(h:a<:+b)(k:Lt b c):Lt a c:=⟨h.trans k.1,Nat.lt_of_le_of_lt h.length_le k.2⟩
theorem Lt.cons(t:T3)(r:List T3):Lt r (t::r):=⟨List.suffix_cons t r,by simp⟩
def Dn{α:Type}(p:Ps α):Prop:=∀ts z,p ts=some z->Lt z.2 ts
def Dn0{α:Type}(p:Ps α):Prop:=∀ts z,p ts=some z->z.2<:+ts
theorem Dn.le{α:Type}{p:Ps α}(h:Dn p):Dn0 p:=fun ts z e=>(h ts z e).1
theorem Z6c{k:Int}{s:ByteArray}{ts:List T3}(h:isT k s ts=true): ∃t r,ts=t::r/\t.k=k/\t.t.data.toList=s.data.toList:=by
 cases ts with
 |nil=>cases h
 |cons t r=>
   simp only[isT,Bool.and_eq_true,beq_iff_eq,sq]at h;exact⟨t,r,rfl,h.1,h.2⟩
theorem Zt{k:Int}{s:ByteArray}{ts:List T3}(h:isT k s ts=true):Lt ts.tail ts:=by
 obtain⟨t,r,rfl,_⟩:=Z6c h;exact Lt.cons t r
theorem Z33(k:Int)(s:ByteArray)(ts:List T3):skT k s ts<:+ts:=by
 unfold skT;split
 · exact List.tail_suffix ts
 · exact List.suffix_refl ts
theorem Z9(k:Int)(s:ByteArray):Dn (wantP k s):=fun ts z h=>by
 unfold wantP at h
 split at h
 · rename_i hi;injection h with h;subst h;exact Zt hi
 · cases h
theorem ZA(k:Int):Dn (takeP k):=fun ts z h=>by
 cases ts with
 |nil=>cases h
 |cons t r=>
   rw[takeP]at h
   split at h
   · injection h with h;subst h;exact Lt.cons t r
   · cases h
theorem Dn.map{α β:Type}{p:Ps α}(hp:Dn p)(f:α×List T3->β):Dn (fun ts=>(p ts).map fun z=>(f z,z.2)):=fun ts z h=>by
 obtain⟨y,hy,rfl⟩:=Option.map_eq_some_iff.1 h;exact hp ts y hy
theorem Zw:Dn nameP:=(ZA 2).map _
theorem bnd{α β:Type}{p:Option α}{f:α->Option β}{z:β}(h:p.bind f=some z): ∃y,p=some y/\f y=some z:=Option.bind_eq_some_iff.1 h
theorem mpd{α β:Type}{p:Option α}{f:α->β}{z:β}(h:p.map f=some z): ∃y,p=some y/\f y=z:=Option.map_eq_some_iff.1 h
theorem Z3J{k:Int}{q:Int}: ∀{l:List (ByteArray×Int)} {ts:List T3},opOf k l ts=some q->Lt ts.tail ts
 |[],_,h=>by cases h
 |(s,n)::l,ts,h=>by
   unfold opOf at h
   split at h
   · rename_i hi;exact Zt hi
   · exact Z3J h
theorem Z8D{part:Ps Ex}{k:Int}{ops:List (ByteArray×Int)}(hp:Dn0 part): ∀(n:Nat) (x:Ex),Dn0 (chainG part k ops n x)
 |0,x,ts,z,h=>by unfold chainG at h;injection h with h;subst h;exact List.suffix_refl ts
 |n+1,x,ts,z,h=>by
   unfold chainG at h
   split at h
   · injection h with h;subst h;exact List.suffix_refl ts
   · rename_i q hq
     obtain⟨y,h1,h2⟩:=bnd h;exact((Z8D hp n _ _ _ h2).trans (hp _ _ h1)).trans (Z3J hq).1
theorem Z4X{part:Ps Ex}{k:Int}{ops:List (ByteArray×Int)}(hp:Dn part):Dn (chainP part k ops):=fun ts z h=>by
 obtain⟨y,h1,h2⟩:=bnd h;exact Lt.trans' (Z8D hp.le _ _ _ _ h2) (hp _ _ h1)
theorem ZdG{e:Ps Ex}(he:Dn0 e):Dn (kwP e):=fun ts z h=>by
 obtain⟨y,h1,h2⟩:=bnd h;have h3:=ZA 1 _ _ h1
 split at h2
 · injection h2 with h2;subst h2;exact h3
 · split at h2
   · injection h2 with h2;subst h2;exact h3
   · split at h2
     · injection h2 with h2;subst h2;exact h3
     · split at h2
       · cases h2
       · obtain⟨u,h4,h5⟩:=bnd h2
         have h6:=Lt.trans (Z9 _ _ _ _ h4) h3.1
         split at h5
         · rename_i hi
           simp only[Bool.and_eq_true]at hi;obtain⟨v,h7,rfl⟩:=mpd h5;exact Lt.trans (Z9 _ _ _ _ h7) ((Zt hi.2).1.trans h6.1)
         · obtain⟨v,h7,h8⟩:=bnd h5
           obtain⟨v',h9,rfl⟩:=mpd h8;exact Lt.trans (Z9 _ _ _ _ h9) ((he _ _ h7).trans h6.1)
theorem Z9Y{e:Ps Ex}(he:Dn0 e):Dn (atomP e):=fun ts z h=>by
 cases ts with
 |nil=>cases h
 |cons t r=>
   rw[atomP]at h
   split at h
   · injection h with h;subst h;exact Lt.cons t r
   · split at h
     · injection h with h;subst h;exact Lt.cons t r
     · split at h
       · split at h
         · rename_i hi
           obtain⟨v,h7,rfl⟩:=mpd h;exact Lt.trans (Zw _ _ h7) ((Zt hi).1.trans (Lt.cons t r).1)
         · injection h with h;subst h;exact Lt.cons t r
       · split at h
         · exact ZdG he _ _ h
         · obtain⟨u,h4,h5⟩:=bnd h
           obtain⟨v,h7,h8⟩:=bnd h5;obtain⟨v',h9,rfl⟩:=mpd h8;exact Lt.trans (Z9 _ _ _ _ h9) ((he _ _ h7).trans (Z9 _ _ _ _ h4).1)
theorem Z6f{e:Ps Ex}(he:Dn0 e):Dn (factorP e)
 |[],z,h=>by rw[factorP]at h;exact Z9Y he _ _ h
 |t::r,z,h=>by
   rw[factorP]at h
   split at h
   · obtain⟨v,h7,rfl⟩:=mpd h
     exact Lt.trans (Z6f he r v h7) (Lt.cons t r).1
   · exact Z9Y he _ _ h
theorem Z9X{e:Ps Ex}(he:Dn0 e):Dn (prodP e):=Z4X (Z6f he)
theorem Z2x{e:Ps Ex}(he:Dn0 e):Dn (sumP e):=Z4X (Z9X he)
theorem Zaz{e:Ps Ex}(he:Dn0 e)(x:Ex):Dn0 (cmpP e x):=fun ts z h=>by
 unfold cmpP at h
 split at h
 · rename_i q hq
   obtain⟨v,h7,rfl⟩:=mpd h;exact(Z2x he _ _ h7).1.trans (Z3J hq).1
 · split at h
   · rename_i hi
     split at h
     · rename_i hj
       obtain⟨v,h7,rfl⟩:=mpd h;exact((Z9 _ _ _ _ h7).1.trans (Zt hj).1).trans (Zt hi).1
     · obtain⟨v,h7,rfl⟩:=mpd h
       exact(Z9 _ _ _ _ h7).1.trans (Zt hi).1
   · injection h with h;subst h;exact List.suffix_refl ts
theorem Z77{e:Ps Ex}(he:Dn0 e):Dn (notP e)
 |[],z,h=>by
   rw[notP]at h;obtain⟨y,h1,h2⟩:=bnd h;exact Lt.trans' (Zaz he _ _ _ h2) (Z2x he _ _ h1)
 |t::r,z,h=>by
   rw[notP]at h
   split at h
   · obtain⟨v,h7,rfl⟩:=mpd h
     exact Lt.trans (Z77 he r v h7) (Lt.cons t r).1
   · obtain⟨y,h1,h2⟩:=bnd h
     exact Lt.trans' (Zaz he _ _ _ h2) (Z2x he _ _ h1)
theorem Zap{e:Ps Ex}(he:Dn0 e):Dn (andP e):=Z4X (Z77 he)
theorem ZdW{e:Ps Ex}(he:Dn0 e):Dn (orP e):=Z4X (Zap he)
theorem Z29: ∀n,Dn (exprP n)
 |0,ts,z,h=>by cases h
 |n+1,ts,z,h=>ZdW (Z29 n).le ts z h
theorem Zcq:Dn exprX:=fun ts z h=>Z29 _ ts z h
def Eq_(n:Nat)(e e':Ps Ex):Prop:=∀ts,ts.length<n->e ts=e' ts
theorem Z1p{α β:Type}{p:Option α}{f g:α->Option β}(h: ∀y,p=some y->f y=g y):p.bind f=p.bind g:=by
 cases p with
 |none=>rfl
 |some y=>exact h y rfl
section
variable{e e':Ps Ex}{N:Nat}(h:Eq_ N e e')
include h
end
end Go.Pz
namespace Go.Proofs.YtbedigkncjbggaaDoor
open Go Go.Vc Go.Pz
structure Tk where
 ts:List T3
 bb:Nat
 o:Nat
 cap:Nat
variable(T:Tk)
abbrev Tk.k(ts:List T3):Nat:=T.ts.length-ts.length
def Tk.j(ts:List T3):Nat:=if T.k ts=T.cap then T.k ts-1 else T.k ts
abbrev Tk.G:World->Prop:=RowG T3.cells 3 T.ts (some ⟨T.bb,T.o,none⟩) T.ts.length
abbrev Tk.sl(ts:List T3):Value:=.slice (some ⟨T.bb,T.o+3*T.j ts,none⟩) ts.length (T.cap-T.k ts)
abbrev PB(b:Nat)(ts:List T3):Own:=⟨b,Z1H,.is (.agg #[T.sl ts])⟩
variable{T}
theorem Tk.j_eq{ts:List T3}(hc:T.ts.length<=T.cap)(hs:ts<:+T.ts)(h:ts≠[]):T.j ts=T.k ts:=by
 have:=hs.length_le;have:0<ts.length:=List.length_pos_iff.2 h;unfold Tk.j;rw[if_neg (by show ¬(T.ts.length-ts.length=T.cap);omega)]
theorem Tk.head{ts:List T3}(hs:ts<:+T.ts)(h:ts≠[]):T.ts[T.k ts]? =some (ts.headD t3D):=by
 obtain⟨us,e⟩:=hs;cases ts with
 |nil=>exact absurd rfl h
 |cons t r=>
   show T.ts[T.ts.length-(t::r).length]? =some t;rw[<-e];simp
theorem Tk.tail{ts:List T3}(hc:T.ts.length<=T.cap)(hs:ts<:+T.ts)(h:ts≠[]):(Value.slice (adS (some ⟨T.bb,T.o+3*T.j ts,none⟩) 1 (T.cap-T.k ts) 3) (ts.length-1) (T.cap-T.k ts-1))=T.sl ts.tail:=by
 have h1:=hs.length_le;have h2:0<ts.length:=List.length_pos_iff.2 h;have h3:ts.tail.length=ts.length-1:=by simp
 rw[Tk.j_eq hc hs h];have h4:T.k ts.tail=T.k ts+1:=by unfold Tk.k;omega
 have h5:T.j ts.tail=if T.cap-T.k ts=1 then T.k ts else T.k ts+1:=by
   unfold Tk.j;rw[h4]
   by_cases hq:T.cap-T.k ts=1
   · rw[if_pos hq,if_pos (by unfold Tk.k at*;omega)];omega
   · rw[if_neg hq,if_neg (by unfold Tk.k at*;omega)]
 unfold Tk.sl;rw[h5,h4,h3]
 by_cases hq:T.cap-T.k ts=1
 · rw[if_pos hq];unfold adS;rw[if_pos hq];rfl
 · rw[if_neg hq];unfold adS;rw[if_neg hq,Option.map_some,Z2H]
   congr 1
end Go.Proofs.YtbedigkncjbggaaDoor
set_option maxRecDepth 20000
namespace Go.Proofs.YtbedigkncjbggaaDoor
open Go Go.Vc
open Go.Pz
theorem Z5K{ts:List T3}(h:((ts.length:Int)==0)=false):ts≠[]:=fun e=>by subst e;cases h
theorem Z1G{ts:List T3}(h:ts≠[]):(0:Int)<ts.length:=by have:=List.length_pos_iff.2 h;omega
theorem ZaX{a b:Bool}(h:(a||b)=false):a=false:=by cases a<;>simp_all
theorem Z9o(k:Int)(s:ByteArray)(ts:List T3):(((((ts.length:Nat):Int)==0)||((ts.headD t3D).k != k))|| !(seq (ts.headD t3D).t s))= !(isT k s ts):=by
 cases ts with
 |nil=>rfl
 |cons t r=>
   rw[Z4G];have:((((t::r).length:Nat):Int)==0)=false:=by rw[beq_eq_false_iff_ne];simp;omega
   rw[this,Bool.false_or];show((!(t.k==k))|| !(sq t.t s))= !((t.k==k)&&sq t.t s);rw[<-Bool.not_and]
abbrev flt:List PanicEntry:=[{v:=.iface Z5Q (.agg #[]),recovered:=false}]
theorem Z9e{k:Int}{s:ByteArray}{ts:List T3}(h:isT k s ts=true):ts≠[]:=fun e=>by subst e;cases h
theorem Z2c(T:Tk)(hc:T.ts.length<=T.cap)(b:Nat)(ts:List T3)(hts:ts<:+T.ts)(kd:Int)(s:ByteArray):CallL Tryd.prog Z5D [PB T b ts] [T.G] [.is (.pointer (some ⟨b,0,none⟩)),.is (.int .i64 kd),.is (.string s)] (fun _:Unit=>True) (fun _=>[PB T b (skT kd s ts)]) (fun _=>.is (.bool (isT kd s ts))):=
CallL.of (fn:=Tryd.f21) Tryd.func21 (n:=43) rfl rfl rfl (fun _ _=>by kernel_rfl) fun E W hb0=>by
 refine vQ ?_;refine Ja rfl (vS [0,1,2] ?_);refine J.reg0 hmx qK qK ?_;refine yz (Z1 rfl) (yz (Z3 rfl) (yz (Z0 Z8 rfl) (yz (Z5 Zj rfl rfl) (yz (ZS ZG rfl) (yz (ZT rfl rfl) (yz (Z1 rfl) (yg rfl rfl rfl (fun hg=>Z1 (.inl rfl)) (yg rfl rfl rfl (fun hg=>Z3 (qR rfl)) ?_))))))));refine yg rfl rfl rfl (fun hg=>Z0 Z8 (qR rfl)) ?_;refine yg rfl rfl rfl (fun hg=>Z5 Zj (qR rfl) rfl) ?_;refine yg rfl rfl rfl (fun hg=>Zq ZH (qR rfl) rfl (.inl rfl) qM (Z1G (Z5K hg))) ?_;refine yg rfl rfl rfl (fun hg=>Z0 Z1R (qR rfl)) ?_;refine yg rfl rfl rfl (fun hg=>Z1h (enc:=T3.cells) (sz:=3) (i:=T.k ts) (j:=0) (y:=ts.headD t3D) (u:=.int .i64 (ts.headD t3D).k) Zy (qR rfl) qI rfl (Tk.head hts (Z5K hg)) (by rw[Tk.j_eq hc hts (Z5K hg)];omega) rfl) ?_;refine yg rfl rfl rfl (fun hg=>Z1 (.inl rfl)) (yg rfl rfl rfl (fun hg=>Z2O (qR rfl) (qR rfl)) ?_);refine yz (Z1g rfl rfl rfl id) (yz (Z1 rfl) (yg rfl rfl rfl (fun hg=>Z1 (.inl rfl)) (yg rfl rfl rfl (fun hg=>Z3 (qR rfl)) ?_)));refine yg rfl rfl rfl (fun hg=>Z0 Z8 (qR rfl)) ?_;refine yg rfl rfl rfl (fun hg=>Z5 Zj (qR rfl) rfl) ?_;refine yg rfl rfl rfl (fun hg=>Zq ZH (qR rfl) rfl (.inl rfl) qM (Z1G (Z5K (ZaX hg)))) ?_;refine yg rfl rfl rfl (fun hg=>Z0 Z3B (qR rfl)) ?_;refine yg rfl rfl rfl (fun hg=>Z1h (enc:=T3.cells) (sz:=3) (i:=T.k ts) (j:=1) (y:=ts.headD t3D) (u:=.string (ts.headD t3D).t) ZC (qR rfl) qI rfl (Tk.head hts (Z5K (ZaX hg))) (by rw[Tk.j_eq hc hts (Z5K (ZaX hg))];omega) rfl) ?_;refine yg rfl rfl rfl (fun hg=>Z1 (.inl rfl)) (yg rfl rfl rfl (fun hg=>ZaI (qR rfl) (qR rfl)) ?_);refine yz (Z1g rfl rfl rfl id) ?_;apply yn;refine FinS.nil0 ?_;refine vS [0,34] ?_;refine yC rfl (fun ht34=>?_) (fun ht34=>?_);have hT:isT kd s ts=false:=by rw[Z9o]at ht34;simpa using ht34
 rw[show skT kd s ts=ts by unfold skT;rw[hT];rfl];refine vQ ?_;refine Ja rfl (vS [6] ?_);refine vR ?_;exact JX.retL1 rfl () trivial (.refl _) rfl rfl hb0 rfl (Sub.isEq (by rw[hT]));apply yK
 repeat first|apply yX|apply yB
 have hT:isT kd s ts=true:=by rw[Z9o]at ht34;simpa using ht34
 rw[show skT kd s ts=ts.tail by unfold skT;rw[hT];rfl];refine vQ ?_;refine Jm rfl (Jm rfl (Jq (Z3 rfl) (Jq (Z0 Z8 rfl) (Jq (Z5 Zj rfl rfl) (Jq (Z4a ZG ZH rfl rfl qM (by have:=Z1G (Z9e hT);omega)) ?_)))));refine Jq (Z3 rfl) (Jq (Z0 Z8 rfl) (JO.m (Zc (cs':=[_]) rfl rfl qU rfl rfl rfl rfl Z2D) (by rfl) ?_));apply yI
 repeat first|apply yX|apply yB
 refine yL [] .nil (vQ ?_);refine Ja rfl (vS [6] ?_);refine vR ?_;refine JX.retL1 (Lr:=[]) rfl () trivial (.of_eq ?_) rfl rfl hb0 rfl (Sub.isEq (by rw[hT]));exact congrArg (fun v=>[Own.mk b Z1H (.is (.agg #[v]))]) (Tk.tail hc hts (Z9e hT))
theorem Zh(T:Tk)(hc:T.ts.length<=T.cap)(b:Nat)(ts:List T3)(hts:ts<:+T.ts)(s:ByteArray):CallL Tryd.prog Z5o [PB T b ts] [T.G] [.is (.pointer (some ⟨b,0,none⟩)),.is (.string s)] (fun _:Unit=>True) (fun _=>[PB T b (skT 5 s ts)]) (fun _=>.is (.bool (isT 5 s ts))):=
CallL.of (fn:=Tryd.f9) Tryd.func9 (n:=8) rfl rfl rfl (fun _ _=>by kernel_rfl) fun E W hb0=>by
 refine vQ ?_;refine Ja rfl (vP [0,1] ?_);refine Jm rfl (Jm rfl (JO.callK (Lr:=[]) (Z2c T hc b ts hts 5 s) rfl (.refl _) (Z4y qI) qA ?_));intro z hz;refine Ja rfl (vS [4] ?_);refine vR ?_;exact JX.retL1 rfl () trivial (.refl _) rfl rfl hb0 rfl (Sub.refl _)
theorem Za(T:Tk)(hc:T.ts.length<=T.cap)(b:Nat)(ts:List T3)(hts:ts<:+T.ts)(s:ByteArray):CallL Tryd.prog Z5G [PB T b ts] [T.G] [.is (.pointer (some ⟨b,0,none⟩)),.is (.string s)] (fun _:Unit=>True) (fun _=>[PB T b (skT 1 s ts)]) (fun _=>.is (.bool (isT 1 s ts))):=
CallL.of (fn:=Tryd.f30) Tryd.func30 (n:=8) rfl rfl rfl (fun _ _=>by kernel_rfl) fun E W hb0=>by
 refine vQ ?_;refine Ja rfl (vP [0,1] ?_);refine Jm rfl (Jm rfl (JO.callK (Lr:=[]) (Z2c T hc b ts hts 1 s) rfl (.refl _) (Z4y qI) qA ?_));intro z hz;refine Ja rfl (vS [4] ?_);refine vR ?_;exact JX.retL1 rfl () trivial (.refl _) rfl rfl hb0 rfl (Sub.refl _)
theorem Zb(pv:Value)(x:Bool):CallP Tryd.prog Z5A [] [] [.is pv,.is (.bool x)] (x=false) flt (fun _:Unit=>x=true) (fun _=>[]) (fun _=>.is (.tuple #[])):=
CallP.of (fn:=Tryd.f10) Tryd.func10 (n:=8) rfl rfl rfl (fun _ _=>by kernel_rfl) fun E W hb0=>by
 refine vQ ?_;refine Jm rfl (Jq (Z5r rfl) (vS [5] ?_));refine yC rfl (fun ht5=>?_) (fun ht5=>?_);refine vQ ?_;refine Jq (Zo (cs:=[]) Z5t .nil rfl rfl) (Jq (Z9Z (d:=.struct #[]) qK rfl rfl) ?_);refine JO.pan rfl ?_;exact JX.pnI (by simpa using ht5);apply yK;refine JX.normal_ret ?_;refine JX.toP ?_;exact JX.retL0 rfl () (by simpa using ht5) (Z1b _) rfl hb0 rfl
theorem Z70{k:Int}{ts:List T3}(h:isK k ts=true):ts≠[]:=fun e=>by subst e;cases h
theorem Z4w(k:Int)(ts:List T3):(decide ((0:Int)<((ts.length:Nat):Int))&&((ts.headD t3D).k==k))=isK k ts:=by
 cases ts with
 |nil=>rfl
 |cons t r=>rw[decide_eq_true (show(0:Int)<(((t::r).length:Nat):Int) by simp)];rfl
theorem Z8u(k:Int)(ts:List T3):takeP k ts=if isK k ts then some (ts.headD t3D,ts.tail)else none:=by cases ts<;>rfl
theorem Z1M{ts:List T3}(h:decide ((0:Int)<((ts.length:Nat):Int))=true):ts≠[]:=fun e=>by subst e;cases h
theorem Z1E(T:Tk)(hc:T.ts.length<=T.cap)(b:Nat)(ts:List T3)(hts:ts<:+T.ts)(kd:Int):CallP Tryd.prog Z5q [PB T b ts] [T.G] [.is (.pointer (some ⟨b,0,none⟩)),.is (.int .i64 kd)] (takeP kd ts=none) flt (fun z:T3×List T3=>takeP kd ts=some z) (fun z=>[PB T b z.2]) (fun z=>.is (tv z.1)):=
CallP.of (fn:=Tryd.f20) Tryd.func20 (n:=40) rfl rfl rfl (fun _ _=>by kernel_rfl) fun E W hb0=>by
 refine vQ ?_;refine JO.alloc Z1C rfl fun b4=>(vS [0,1,4] ?_);refine J.regS 18 hmx qK qK ?_;refine yz (Z1 rfl) (yz (Z1 rfl) (yz (Z3 rfl) (yz (Z0 Z8 rfl) (yz (Z5 Zj rfl rfl) (yz (ZS ZG rfl) (yz (Z1U rfl rfl) (yz (Z1 rfl) (yg rfl rfl rfl (fun hg=>Z1 (.inl rfl)) (yg rfl rfl rfl (fun hg=>Z3 (qR rfl)) ?_)))))))));refine yg rfl rfl rfl (fun hg=>Z0 Z8 (qR rfl)) ?_;refine yg rfl rfl rfl (fun hg=>Z5 Zj (qR rfl) rfl) ?_;refine yg rfl rfl rfl (fun hg=>Zq ZH (qR rfl) rfl (.inl rfl) qM (Z1G (Z1M hg))) ?_;refine yg rfl rfl rfl (fun hg=>Z0 Z1R (qR rfl)) ?_;refine yg rfl rfl rfl (fun hg=>Z1h (enc:=T3.cells) (sz:=3) (i:=T.k ts) (j:=0) (y:=ts.headD t3D) (u:=.int .i64 (ts.headD t3D).k) Zy (qR rfl) qI rfl (Tk.head hts (Z1M hg)) (by rw[Tk.j_eq hc hts (Z1M hg)];omega) rfl) ?_;refine yg rfl rfl rfl (fun hg=>Z1 (.inl rfl)) (yg rfl rfl rfl (fun hg=>ZT (qR rfl) (qR rfl)) ?_);refine yz (Zz rfl rfl rfl id) ?_;apply yn;refine FinS.tail0 ?_;refine JO.callPK (Lr:=_) (Zb (.pointer (some ⟨b,0,none⟩)) _) rfl (Z1b _) Z13 qA (fun hbad=>?_) ?_
 · exact JX.pnI (by rw[Z8u,<-Z4w,hbad];rfl)
 intro z hz;have hK:isK kd ts=true:=by rw[<-Z4w];exact hz
 refine vD ?_;refine vP [0,4] ?_;refine Jm rfl (Jq (Z3 rfl) (Jq (Z0 Z8 rfl) (Jq (Z5 Zj rfl rfl) (Jq (Zq ZH rfl rfl rfl qM (Z1G (Z70 hK))) ?_))));refine Jq (Z3D (enc:=T3.cells) (sz:=3) (i:=T.k ts) (y:=ts.headD t3D) (cs:=T3.cells (ts.headD t3D)) ZF rfl qI rfl (Tk.head hts (Z70 hK)) (by rw[Tk.j_eq hc hts (Z70 hK)];rfl) rfl) ?_;refine JO.alloc Z1C rfl fun b5=>(JO.m (Z2 rfl rfl qU qC qO ZN) (by rfl) ?_);refine vP [0,4,5] ?_;refine Jm rfl (Jm rfl (Jq (Z3 rfl) (Jq (Z0 Z8 rfl) (Jq (Z5 Zj rfl rfl) (Jq (Z4a ZG ZH rfl rfl qM (by have:=Z1G (Z70 hK);omega)) ?_)))));refine Jq (Z3 rfl) (Jq (Z0 Z8 rfl) (JO.m (Zc (cs':=[_]) rfl rfl qU rfl rfl rfl rfl Z2D) (by rfl) ?_));refine vP [4,5] ?_;refine Jq (Z18 (cs:=[_,_,_]) ZF rfl rfl rfl) (JO.m (Z2 rfl rfl qU qC qO ZN) (by rfl) ?_);refine vS [4] ?_;refine vR ?_;refine JX.toP ?_;exact JX.retLC (Lr:=[_,_]) rfl (ts.headD t3D,ts.tail) (by rw[Z8u,hK];rfl) (List.Perm.trans (List.perm_append_comm (l₁:=[_,_]) (l₂:=[_])) (.of_eq (congrArg (fun v=>Own.mk b Z1H (.is (.agg #[v]))::[_,_]) (Tk.tail hc hts (Z70 hK))))) rfl hb0 rfl ZF HasOwn.mem rfl rfl
theorem Zr(T:Tk)(hc:T.ts.length<=T.cap)(b:Nat)(ts:List T3)(hts:ts<:+T.ts):CallP Tryd.prog Z3a [PB T b ts] [T.G] [.is (.pointer (some ⟨b,0,none⟩))] (nameP ts=none) flt (fun z:ByteArray×List T3=>nameP ts=some z) (fun z=>[PB T b z.2]) (fun z=>.is (.string z.1)):=
CallP.of (fn:=Tryd.f31) Tryd.func31 (n:=6) rfl rfl rfl (fun _ _=>by kernel_rfl) fun E W hb0=>by
 refine vQ ?_;refine Ja rfl (vP [0] ?_);refine Jm rfl ?_;refine JO.callPK (Lr:=[]) (Z1E T hc b ts hts 2) rfl (.refl _) (Z4y qI) qA (fun hbad=>?_) ?_
 · exact JX.pnI (by unfold nameP;rw[hbad];rfl)
 intro z hz;refine vD ?_;refine Jq (Z54 (off:=1) qK rfl rfl) ?_;refine Ja rfl (vS [2] ?_);refine vR ?_;refine JX.toP ?_;exact JX.retL1 rfl (z.1.t,z.2) (by unfold nameP;rw[hz];rfl) (.refl _) rfl rfl hb0 rfl (Sub.refl _)
theorem Sub.leaf{L:List Own}{Φ:List (World->Prop)}{k vk vn:Int}{vs tb nm:ByteArray}{sl:Int}:Sub L Φ (.is (.agg (exCells k vk vn vs tb nm sl none 0 0).toArray)) (.rep (ExR (.mk k vk vn vs tb nm sl []))):=fun E v w hf e=>by
 rw[show v=_ from e];exact fun w' _=>Z9R
theorem Z1B(k:Int)(kids:List Ex):CallTy Tryd.prog Z9f [.is (.int .i64 k),.rep (ExsR kids)] (.rep (ExR (nd k kids))):=
 CallTy.of (fn:=Tryd.f71) Tryd.func71 (n:=8) rfl rfl rfl (fun _ _=>by kernel_rfl) fun E W=>by
 refine J.openExs (s:=1) rfl (fun a len cap b0 o0 hl ha=>?_);refine vQ ?_;refine JO.alloc ZM rfl fun b4=>(vP [0,1,4] ?_);refine Jm rfl (Jm rfl (Jq (Zo (cs:=[_,_,_,_,_,_,_,_]) Z3O (.cons rfl (.cons rfl .nil)) rfl rfl) (JO.m (Z2 rfl rfl qU qC qO Zf) (by rfl) ?_)));refine vS [4] ?_;refine vR ?_;exact JX.retCsub rfl rfl Z7 HasOwn.mem rfl rfl (Sub.exMk List.mem_cons_self)
theorem Z24(vk vn:Int)(vs:ByteArray):CallTy Tryd.prog Z7S [.is (.agg #[.int .i64 vk,.int .i64 vn,.string vs])] (.rep (ExR (lit vk vn vs))):=
 CallTy.of (fn:=Tryd.f100) Tryd.func100 (n:=5) rfl rfl rfl (fun _ _=>by kernel_rfl) fun E W=>by
 refine vQ ?_;refine JO.box rfl rfl fun b1=>(JO.alloc ZM rfl fun b2=>(vP [1,2] ?_));refine Jq (Z18 (cs:=[_,_,_]) Z9F rfl rfl rfl) (Jq (Zo (cs:=[_,_,_,_,_,_,_,_]) Z3O (.cons rfl (.cons rfl .nil)) rfl rfl) (JO.m (Z2 rfl rfl qU qC qO Zf) (by rfl) ?_));refine vS [2] ?_;refine vR ?_;exact JX.retCsub rfl rfl Z7 HasOwn.mem rfl rfl Sub.leaf
end Go.Proofs.YtbedigkncjbggaaDoor
set_option maxRecDepth 20000
namespace Go.Proofs.YtbedigkncjbggaaDoor
open Go Go.Vc Go.Shelf
def Z35:Go.Shelf.Ren:=⟨fun|158=>53|165=>61|166=>62|167=>63|169=>64|230=>65|203=>66|240=>73|241=>74|197=>75|118=>76|168=>77|270=>78|262=>79|276=>83|277=>84|260=>85|242=>86|313=>87|278=>94|274=>95|275=>96|n=>n,fun|9=>9|4=>4|3=>3|5=>5|72=>110|0=>0|76=>114|75=>113|107=>118|70=>108|20=>20|37=>103|127=>124|21=>21|105=>125|164=>137|162=>143|203=>141|119=>120|46=>145|139=>159|138=>158|51=>134|160=>160|208=>170|206=>168|80=>76|n=>n,fun|13=>3|3=>4|4=>5|n=>n⟩
theorem lays158:Go.Proofs.Lays.n158 Tryd.prog Z35:={
 mixed:=by kernel_rfl
 f118:=Tryd.func76.trans (congrArg some qK)
 f158:=Tryd.func53.trans (congrArg some qK)
 f165:=Tryd.func61.trans (congrArg some qK)
 f166:=Tryd.func62.trans (congrArg some qK)
 f167:=Tryd.func63.trans (congrArg some qK)
 f168:=Tryd.func77.trans (congrArg some qK)
 f169:=Tryd.func64.trans (congrArg some qK)
 f197:=Tryd.func75.trans (congrArg some qK)
 f203:=Tryd.func66.trans (congrArg some qK)
 f230:=Tryd.func65.trans (congrArg some qK)
 f240:=Tryd.func73.trans (congrArg some qK)
 f241:=Tryd.func74.trans (congrArg some qK)
 f242:=Tryd.func86.trans (congrArg some qK)
 f260:=Tryd.func85.trans (congrArg some qK)
 f262:=Tryd.func79.trans (congrArg some qK)
 f270:=Tryd.func78.trans (congrArg some qK)
 f274:=Tryd.func95.trans (congrArg some qK)
 f275:=Tryd.func96.trans (congrArg some qK)
 f276:=Tryd.func83.trans (congrArg some qK)
 f277:=Tryd.func84.trans (congrArg some qK)
 f278:=Tryd.func94.trans (congrArg some qK)
 f313:=Tryd.func87.trans (congrArg some qK)
 t0:=Tryd.underlying0
 a0:=Tryd.isAgg0
 z0:=Tryd.sizeOf0
 v0:=Tryd.zeroValue0
 t3:=Tryd.underlying3
 a3:=Tryd.isAgg3
 z3:=Tryd.sizeOf3
 v3:=Tryd.zeroValue3
 t4:=Tryd.underlying4
 a4:=Tryd.isAgg4
 z4:=Tryd.sizeOf4
 v4:=Tryd.zeroValue4
 t5:=Tryd.underlying5
 a5:=Tryd.isAgg5
 z5:=Tryd.sizeOf5
 v5:=Tryd.zeroValue5
 t9:=Tryd.underlying9
 a9:=Tryd.isAgg9
 z9:=Tryd.sizeOf9
 v9:=Tryd.zeroValue9
 t20:=Tryd.underlying20
 a20:=Tryd.isAgg20
 z20:=Tryd.sizeOf20
 v20:=Tryd.zeroValue20
 t21:=Tryd.underlying21
 a21:=Tryd.isAgg21
 z21:=Tryd.sizeOf21
 v21:=Tryd.zeroValue21
 t37:=Tryd.underlying103
 a37:=Tryd.isAgg103
 z37:=Tryd.sizeOf103
 v37:=Tryd.zeroValue103
 t46:=Tryd.underlying145
 a46:=Tryd.isAgg145
 z46:=Tryd.sizeOf145
 v46:=Tryd.zeroValue145
 t51:=Tryd.underlying134
 a51:=Tryd.isAgg134
 z51:=Tryd.sizeOf134
 v51:=Tryd.zeroValue134
 t70:=Tryd.underlying108
 a70:=Tryd.isAgg108
 z70:=Tryd.sizeOf108
 v70:=Tryd.zeroValue108
 t72:=Tryd.underlying110
 a72:=Tryd.isAgg110
 z72:=Tryd.sizeOf110
 v72:=Tryd.zeroValue110
 t75:=Tryd.underlying113
 a75:=Tryd.isAgg113
 z75:=Tryd.sizeOf113
 v75:=Tryd.zeroValue113
 t76:=Tryd.underlying114
 a76:=Tryd.isAgg114
 z76:=Tryd.sizeOf114
 v76:=Tryd.zeroValue114
 t105:=Tryd.underlying125
 a105:=Tryd.isAgg125
 z105:=Tryd.sizeOf125
 v105:=Tryd.zeroValue125
 t107:=Tryd.underlying118
 a107:=Tryd.isAgg118
 z107:=Tryd.sizeOf118
 v107:=Tryd.zeroValue118
 t119:=Tryd.underlying120
 a119:=Tryd.isAgg120
 z119:=Tryd.sizeOf120
 t127:=Tryd.underlying124
 a127:=Tryd.isAgg124
 z127:=Tryd.sizeOf124
 v127:=Tryd.zeroValue124
 t138:=Tryd.underlying158
 a138:=Tryd.isAgg158
 z138:=Tryd.sizeOf158
 v138:=Tryd.zeroValue158
 t139:=Tryd.underlying159
 a139:=Tryd.isAgg159
 z139:=Tryd.sizeOf159
 v139:=Tryd.zeroValue159
 t160:=Tryd.underlying160
 a160:=Tryd.isAgg160
 z160:=Tryd.sizeOf160
 v160:=Tryd.zeroValue160
 t162:=Tryd.underlying143
 a162:=Tryd.isAgg143
 z162:=Tryd.sizeOf143
 v162:=Tryd.zeroValue143
 t164:=Tryd.underlying137
 a164:=Tryd.isAgg137
 z164:=Tryd.sizeOf137
 v164:=Tryd.zeroValue137
 t203:=Tryd.underlying141
 a203:=Tryd.isAgg141
 z203:=Tryd.sizeOf141
 v203:=Tryd.zeroValue141
 t206:=Tryd.underlying168
 a206:=Tryd.isAgg168
 z206:=Tryd.sizeOf168
 v206:=Tryd.zeroValue168
 t208:=Tryd.underlying170
 a208:=Tryd.isAgg170
 z208:=Tryd.sizeOf170
 v208:=Tryd.zeroValue170
 g3:=by kernel_rfl
 g4:=by kernel_rfl
 g13:=by kernel_rfl}
theorem extra158:Builder.Extra Tryd.prog Z35:={
 sizeBuilder:=by kernel_rfl
 liesBuilder:=by kernel_rfl
 t5:=Tryd.underlying5
 a5:=Tryd.isAgg5
 z5:=Tryd.sizeOf5
 v5:=Tryd.zeroValue5
 infoByte:=by kernel_rfl
 cellsByte:=by kernel_rfl
 sizeByte:=by kernel_rfl
 neB5:=by decide}
open Go.RowKit in
def Z7u:Go.Shelf.Ren:=⟨fun|159=>55|165=>61|166=>62|167=>63|169=>64|230=>65|204=>68|240=>73|241=>74|197=>75|118=>76|168=>77|270=>78|262=>79|276=>83|277=>84|260=>85|242=>86|313=>87|278=>94|274=>95|275=>96|n=>n,fun|9=>9|4=>4|3=>3|5=>5|72=>110|0=>0|76=>114|75=>113|107=>118|70=>108|20=>20|37=>103|127=>124|21=>21|105=>125|164=>137|162=>143|203=>141|119=>120|46=>145|139=>159|138=>158|51=>134|160=>160|208=>170|206=>168|80=>76|n=>n,fun|13=>3|3=>4|4=>5|n=>n⟩
theorem lays159:Go.Proofs.Lays.n159 Tryd.prog Z7u:={
 mixed:=by kernel_rfl
 f118:=Tryd.func76.trans (congrArg some qK)
 f159:=Tryd.func55.trans (congrArg some qK)
 f165:=Tryd.func61.trans (congrArg some qK)
 f166:=Tryd.func62.trans (congrArg some qK)
 f167:=Tryd.func63.trans (congrArg some qK)
 f168:=Tryd.func77.trans (congrArg some qK)
 f169:=Tryd.func64.trans (congrArg some qK)
 f197:=Tryd.func75.trans (congrArg some qK)
 f204:=Tryd.func68.trans (congrArg some qK)
 f230:=Tryd.func65.trans (congrArg some qK)
 f240:=Tryd.func73.trans (congrArg some qK)
 f241:=Tryd.func74.trans (congrArg some qK)
 f242:=Tryd.func86.trans (congrArg some qK)
 f260:=Tryd.func85.trans (congrArg some qK)
 f262:=Tryd.func79.trans (congrArg some qK)
 f270:=Tryd.func78.trans (congrArg some qK)
 f274:=Tryd.func95.trans (congrArg some qK)
 f275:=Tryd.func96.trans (congrArg some qK)
 f276:=Tryd.func83.trans (congrArg some qK)
 f277:=Tryd.func84.trans (congrArg some qK)
 f278:=Tryd.func94.trans (congrArg some qK)
 f313:=Tryd.func87.trans (congrArg some qK)
 t0:=Tryd.underlying0
 a0:=Tryd.isAgg0
 z0:=Tryd.sizeOf0
 v0:=Tryd.zeroValue0
 t3:=Tryd.underlying3
 a3:=Tryd.isAgg3
 z3:=Tryd.sizeOf3
 v3:=Tryd.zeroValue3
 t4:=Tryd.underlying4
 a4:=Tryd.isAgg4
 z4:=Tryd.sizeOf4
 v4:=Tryd.zeroValue4
 t5:=Tryd.underlying5
 a5:=Tryd.isAgg5
 z5:=Tryd.sizeOf5
 v5:=Tryd.zeroValue5
 t9:=Tryd.underlying9
 a9:=Tryd.isAgg9
 z9:=Tryd.sizeOf9
 v9:=Tryd.zeroValue9
 t20:=Tryd.underlying20
 a20:=Tryd.isAgg20
 z20:=Tryd.sizeOf20
 v20:=Tryd.zeroValue20
 t21:=Tryd.underlying21
 a21:=Tryd.isAgg21
 z21:=Tryd.sizeOf21
 v21:=Tryd.zeroValue21
 t37:=Tryd.underlying103
 a37:=Tryd.isAgg103
 z37:=Tryd.sizeOf103
 v37:=Tryd.zeroValue103
 t46:=Tryd.underlying145
 a46:=Tryd.isAgg145
 z46:=Tryd.sizeOf145
 v46:=Tryd.zeroValue145
 t51:=Tryd.underlying134
 a51:=Tryd.isAgg134
 z51:=Tryd.sizeOf134
 v51:=Tryd.zeroValue134
 t70:=Tryd.underlying108
 a70:=Tryd.isAgg108
 z70:=Tryd.sizeOf108
 v70:=Tryd.zeroValue108
 t72:=Tryd.underlying110
 a72:=Tryd.isAgg110
 z72:=Tryd.sizeOf110
 v72:=Tryd.zeroValue110
 t75:=Tryd.underlying113
 a75:=Tryd.isAgg113
 z75:=Tryd.sizeOf113
 v75:=Tryd.zeroValue113
 t76:=Tryd.underlying114
 a76:=Tryd.isAgg114
 z76:=Tryd.sizeOf114
 v76:=Tryd.zeroValue114
 t105:=Tryd.underlying125
 a105:=Tryd.isAgg125
 z105:=Tryd.sizeOf125
 v105:=Tryd.zeroValue125
 t107:=Tryd.underlying118
 a107:=Tryd.isAgg118
 z107:=Tryd.sizeOf118
 v107:=Tryd.zeroValue118
 t119:=Tryd.underlying120
 a119:=Tryd.isAgg120
 z119:=Tryd.sizeOf120
 t127:=Tryd.underlying124
 a127:=Tryd.isAgg124
 z127:=Tryd.sizeOf124
 v127:=Tryd.zeroValue124
 t138:=Tryd.underlying158
 a138:=Tryd.isAgg158
 z138:=Tryd.sizeOf158
 v138:=Tryd.zeroValue158
 t139:=Tryd.underlying159
 a139:=Tryd.isAgg159
 z139:=Tryd.sizeOf159
 v139:=Tryd.zeroValue159
 t160:=Tryd.underlying160
 a160:=Tryd.isAgg160
 z160:=Tryd.sizeOf160
 v160:=Tryd.zeroValue160
 t162:=Tryd.underlying143
 a162:=Tryd.isAgg143
 z162:=Tryd.sizeOf143
 v162:=Tryd.zeroValue143
 t164:=Tryd.underlying137
 a164:=Tryd.isAgg137
 z164:=Tryd.sizeOf137
 v164:=Tryd.zeroValue137
 t203:=Tryd.underlying141
 a203:=Tryd.isAgg141
 z203:=Tryd.sizeOf141
 v203:=Tryd.zeroValue141
 t206:=Tryd.underlying168
 a206:=Tryd.isAgg168
 z206:=Tryd.sizeOf168
 v206:=Tryd.zeroValue168
 t208:=Tryd.underlying170
 a208:=Tryd.isAgg170
 z208:=Tryd.sizeOf170
 v208:=Tryd.zeroValue170
 g3:=by kernel_rfl
 g4:=by kernel_rfl
 g13:=by kernel_rfl}
theorem extra159:Builder.Extra Tryd.prog Z7u:={
 sizeBuilder:=by kernel_rfl
 liesBuilder:=by kernel_rfl
 t5:=Tryd.underlying5
 a5:=Tryd.isAgg5
 z5:=Tryd.sizeOf5
 v5:=Tryd.zeroValue5
 infoByte:=by kernel_rfl
 cellsByte:=by kernel_rfl
 sizeByte:=by kernel_rfl
 neB5:=by decide}
open Go.RowKit in
def Za5:Go.Shelf.Ren:=⟨fun|137=>23|217=>50|266=>60|n=>n,fun|9=>9|5=>5|3=>3|n=>n,fun|n=>n⟩
theorem lays137:Go.Proofs.Lays.n137 Tryd.prog Za5:={
 mixed:=by kernel_rfl
 f137:=Tryd.func23.trans (congrArg some qK)
 f217:=Tryd.func50.trans (congrArg some qK)
 f266:=Tryd.func60.trans (congrArg some qK)
 t3:=Tryd.underlying3
 a3:=Tryd.isAgg3
 z3:=Tryd.sizeOf3
 v3:=Tryd.zeroValue3
 t5:=Tryd.underlying5
 a5:=Tryd.isAgg5
 z5:=Tryd.sizeOf5
 v5:=Tryd.zeroValue5
 t9:=Tryd.underlying9
 a9:=Tryd.isAgg9
 z9:=Tryd.sizeOf9
 v9:=Tryd.zeroValue9}
open Go.RowKit in
def Ze0:Go.Shelf.Ren:=⟨fun|143=>67|219=>80|217=>50|225=>88|224=>89|267=>90|266=>60|314=>97|n=>n,fun|9=>9|3=>3|4=>4|5=>5|46=>145|146=>163|51=>134|n=>n,fun|1=>1|n=>n⟩
open Go.RowKit Go.Lib in
def Za8:Go.Shelf.Ren:=⟨fun|144=>54|143=>67|219=>80|217=>50|225=>88|224=>89|267=>90|266=>60|314=>97|n=>n,fun|9=>9|4=>4|3=>3|5=>5|46=>145|146=>163|51=>134|n=>n,fun|1=>1|n=>n⟩
theorem lays144:Go.Proofs.Lays.n144 Tryd.prog Za8:={
 mixed:=by kernel_rfl
 f143:=Tryd.func67.trans (congrArg some qK)
 f144:=Tryd.func54.trans (congrArg some qK)
 f217:=Tryd.func50.trans (congrArg some qK)
 f219:=Tryd.func80.trans (congrArg some qK)
 f224:=Tryd.func89.trans (congrArg some qK)
 f225:=Tryd.func88.trans (congrArg some qK)
 f266:=Tryd.func60.trans (congrArg some qK)
 f267:=Tryd.func90.trans (congrArg some qK)
 f314:=Tryd.func97.trans (congrArg some qK)
 t3:=Tryd.underlying3
 a3:=Tryd.isAgg3
 z3:=Tryd.sizeOf3
 v3:=Tryd.zeroValue3
 t4:=Tryd.underlying4
 a4:=Tryd.isAgg4
 z4:=Tryd.sizeOf4
 v4:=Tryd.zeroValue4
 t5:=Tryd.underlying5
 a5:=Tryd.isAgg5
 z5:=Tryd.sizeOf5
 v5:=Tryd.zeroValue5
 t9:=Tryd.underlying9
 a9:=Tryd.isAgg9
 z9:=Tryd.sizeOf9
 v9:=Tryd.zeroValue9
 t46:=Tryd.underlying145
 a46:=Tryd.isAgg145
 z46:=Tryd.sizeOf145
 v46:=Tryd.zeroValue145
 t51:=Tryd.underlying134
 a51:=Tryd.isAgg134
 z51:=Tryd.sizeOf134
 v51:=Tryd.zeroValue134
 t146:=Tryd.underlying163
 a146:=Tryd.isAgg163
 z146:=Tryd.sizeOf163
 v146:=Tryd.zeroValue163
 g1:=by kernel_rfl}
open Go.RowKit Go.Lib in
def Zaa:Go.Shelf.Ren:=⟨fun|157=>57|229=>69|199=>70|261=>81|311=>91|312=>92|n=>n,fun|9=>9|31=>24|3=>3|5=>5|4=>4|119=>120|0=>0|40=>122|152=>131|21=>21|154=>133|51=>134|141=>136|196=>149|193=>146|198=>152|49=>150|194=>147|201=>155|226=>165|46=>145|227=>166|n=>n,fun|0=>0|6=>2|n=>n⟩
theorem lays157:Go.Proofs.Lays.n157 Tryd.prog Zaa:={
 mixed:=by kernel_rfl
 f157:=Tryd.func57.trans (congrArg some qK)
 f199:=Tryd.func70.trans (congrArg some qK)
 f229:=Tryd.func69.trans (congrArg some qK)
 f261:=Tryd.func81.trans (congrArg some qK)
 f311:=Tryd.func91.trans (congrArg some qK)
 f312:=Tryd.func92.trans (congrArg some qK)
 t0:=Tryd.underlying0
 a0:=Tryd.isAgg0
 z0:=Tryd.sizeOf0
 v0:=Tryd.zeroValue0
 t3:=Tryd.underlying3
 a3:=Tryd.isAgg3
 z3:=Tryd.sizeOf3
 v3:=Tryd.zeroValue3
 t4:=Tryd.underlying4
 a4:=Tryd.isAgg4
 z4:=Tryd.sizeOf4
 v4:=Tryd.zeroValue4
 t5:=Tryd.underlying5
 a5:=Tryd.isAgg5
 z5:=Tryd.sizeOf5
 v5:=Tryd.zeroValue5
 t9:=Tryd.underlying9
 a9:=Tryd.isAgg9
 z9:=Tryd.sizeOf9
 v9:=Tryd.zeroValue9
 t21:=Tryd.underlying21
 a21:=Tryd.isAgg21
 z21:=Tryd.sizeOf21
 v21:=Tryd.zeroValue21
 t31:=Tryd.underlying24
 a31:=Tryd.isAgg24
 z31:=Tryd.sizeOf24
 v31:=Tryd.zeroValue24
 t40:=Tryd.underlying122
 a40:=Tryd.isAgg122
 z40:=Tryd.sizeOf122
 v40:=Tryd.zeroValue122
 t46:=Tryd.underlying145
 a46:=Tryd.isAgg145
 z46:=Tryd.sizeOf145
 v46:=Tryd.zeroValue145
 t49:=Tryd.underlying150
 a49:=Tryd.isAgg150
 z49:=Tryd.sizeOf150
 v49:=Tryd.zeroValue150
 t51:=Tryd.underlying134
 a51:=Tryd.isAgg134
 z51:=Tryd.sizeOf134
 v51:=Tryd.zeroValue134
 t119:=Tryd.underlying120
 a119:=Tryd.isAgg120
 z119:=Tryd.sizeOf120
 t141:=Tryd.underlying136
 a141:=Tryd.isAgg136
 z141:=Tryd.sizeOf136
 v141:=Tryd.zeroValue136
 t152:=Tryd.underlying131
 a152:=Tryd.isAgg131
 z152:=Tryd.sizeOf131
 v152:=Tryd.zeroValue131
 t154:=Tryd.underlying133
 a154:=Tryd.isAgg133
 z154:=Tryd.sizeOf133
 v154:=Tryd.zeroValue133
 t193:=Tryd.underlying146
 a193:=Tryd.isAgg146
 z193:=Tryd.sizeOf146
 v193:=Tryd.zeroValue146
 t194:=Tryd.underlying147
 a194:=Tryd.isAgg147
 z194:=Tryd.sizeOf147
 v194:=Tryd.zeroValue147
 t196:=Tryd.underlying149
 a196:=Tryd.isAgg149
 z196:=Tryd.sizeOf149
 v196:=Tryd.zeroValue149
 t198:=Tryd.underlying152
 a198:=Tryd.isAgg152
 z198:=Tryd.sizeOf152
 v198:=Tryd.zeroValue152
 t201:=Tryd.underlying155
 a201:=Tryd.isAgg155
 z201:=Tryd.sizeOf155
 v201:=Tryd.zeroValue155
 t226:=Tryd.underlying165
 a226:=Tryd.isAgg165
 z226:=Tryd.sizeOf165
 v226:=Tryd.zeroValue165
 t227:=Tryd.underlying166
 a227:=Tryd.isAgg166
 z227:=Tryd.sizeOf166
 v227:=Tryd.zeroValue166
 g0:=by kernel_rfl
 g6:=by kernel_rfl}
open Go.RowKit Go.Lib in
def GF(w:World):Prop:=∃m,w.cell? ⟨1,0,none⟩=some (.int .i64 m)
def AF(w:World):Prop:=Lib.TabIs Tryd.prog w "strings.asciiSpace" .u8 Lib.asciiSpaceTab
theorem Z6A(s:ByteArray)(c:Int):CallTy Tryd.prog Z6D [.is (.string s),.is (.int .u8 c)] (.is (.int .i64 (Lib.indexByte s.data.toList c.toNat.toUInt8))):=
 .ofShelf0 (ws:=[.string s,.int .u8 c]) (fun _ _=>by kernel_rfl) fun w=>Any.strings_IndexByte lays137 s c w
theorem Z7f(s:ByteArray)(hs:s.size<=140737488355328)(ha: ∀(j:Nat) (b:UInt8),s.data.toList[j]? =some b->b.toNat<128):CallTy Tryd.prog Z7e [.is (.string s)] (.is (.string ⟨(Lib.toUpperA s.data.toList).toArray⟩)):=
 .ofShelf (ws:=[.string s]) (fun _ _=>by kernel_rfl) fun w=>Any.strings_ToUpper_ascii lays158 extra158 s w hs ha
theorem Z7c(s:ByteArray)(hs:s.size<=140737488355328)(ha: ∀(j:Nat) (b:UInt8),s.data.toList[j]? =some b->b.toNat<128):CallTy Tryd.prog Z7g [.is (.string s)] (.is (.string ⟨(Lib.toLowerA s.data.toList).toArray⟩)):=
 .ofShelf (ws:=[.string s]) (fun _ _=>by kernel_rfl) fun w=>Any.strings_ToLower_ascii lays159 extra159 s w hs ha
theorem Z43(s sub:ByteArray)(hs:s.size<4294967281):CallF Tryd.prog Z6H [GF] [.is (.string s),.is (.string sub)] (.is (.bool (Lib.contains s.data.toList sub.data.toList))):=
 .ofShelf (ws:=[.string s,.string sub]) (fun _ _=>by kernel_rfl) fun w hw=>by
  obtain⟨m,hm⟩:=hw GF (by simp);exact(Any.strings_Contains lays144 s sub m w hs hm).mono fun e w' ⟨h1,h2⟩=>⟨h1,h2 ▸ .refl _ _⟩
theorem Z7P(s:ByteArray)(hs:s.size<4294967281)(ha: ∀(j:Nat) (b:UInt8),s.data.toList[j]? =some b->b.toNat<128):CallF Tryd.prog Z4z [AF] [.is (.string s)] (.newSl (.cells ((Lib.fields s.data.toList).map fun l=>Value.string ⟨l.toArray⟩).toArray 9 (0,0)) (Lib.fields s.data.toList).length (Lib.fields s.data.toList).length):=
 ⟨fun _ _=>by kernel_rfl,fun E w vs hw hF ht=>by
   obtain⟨v,rfl,rfl⟩: ∃v,vs=[v]/\v= .string s:=by
     cases vs with
     |nil=>exact ht.elim
     |cons v vs=>
       obtain⟨h1,h2⟩:=ht;cases vs with
       |nil=>exact⟨v,rfl,h1⟩
       |cons _ _=>exact h2.elim
   have hT:AF w:=(hF AF (by simp)).now;refine Calls.mono (Any.strings_Fields lays157 qK qK s w hs ha hT) ?_;rintro e w' ⟨rfl,rfl⟩;exact⟨_,rfl,Keeps.alloc w _,_,rfl,fun he=>absurd (hw _ he) qM,Z15 w _⟩⟩
end Go.Proofs.YtbedigkncjbggaaDoor
