/- The closed facts on the types of the program. No condition. -/
import Derived.Test.YtbedigkncjbggaaGreatDoorProg
import Derived.Test.YtbedigkncjbggaaGreatDoorXG7
import Derived.Test.YtbedigkncjbggaaGreatDoorXG3
namespace Go.Vc
open Go
abbrev yX:=@JX.next
abbrev yB:=@JX.normal_block
abbrev yP:=@JX.ret_pass
abbrev yR:=@JX.ret_block
abbrev yH:=@JX.hit
abbrev yM:=@JX.miss
abbrev yE:=@JX.exit_pass
abbrev yQ:=@J.seq
abbrev yN:=@J.plain
abbrev yI:=@JO.nil
abbrev yh:=@List.mem_cons_self
abbrev yx:=@List.mem_cons_of_mem
abbrev yc:=@List.mem_cons
theorem yd{p:Prop}[Decidable p]:(decide p=true)=p:=decide_eq_true_eq
theorem yf{p:Prop}[Decidable p]:(decide p=false)↔ ¬p:=decide_eq_false_iff_not
theorem ya{α:Type _}{l:List α}:[]++l=l:=rfl
theorem yb{α:Type _}{a:α}{l k:List α}:(a::l)++k=a::(l++k):=rfl
abbrev yU:=@Upd.there
abbrev yi:=@Zb
abbrev ye:=@Z6n
abbrev yo:=@Z4r
abbrev yJ:=@JO.t
abbrev yL:=@J.sel
abbrev yC:=@J.cond
abbrev yT:=@J.ret
abbrev yK:=@J.skip
abbrev yk:=@J.block
abbrev yn:=@RT.nil
abbrev yz:=@RT.t
abbrev yg:=@RT.g
end Go.Vc
namespace Go.Vc
open Go
theorem qF{p:Prop}(h:p:=by intro F hF;repeat(first|(rcases yc.1 hF with rfl|hF;· (repeat first|exact yh|apply yx))|(cases hF;done))):p:=h
theorem qI{p:Prop}(h:p:=by repeat first|exact yh|apply yx):p:=h
theorem qU{p:Prop}(h:p:=by repeat first|exact .here|apply yU):p:=h
theorem qC{p:Prop}(h:p:=by first|exact yi rfl rfl|exact ye):p:=h
theorem qO{p:Prop}(h:p:=by first|exact yi rfl rfl|exact ye|exact yo):p:=h
theorem qM{p:Prop}(h:p:=by omega):p:=h
theorem qD{p:Prop}(h:p:=by decide):p:=h
theorem qX{p:Prop}(h:p:=by first|(simp[binR, *];done)|(simp[binG, *];done)|(simp[opOf, *];done)|simp[binR,binG,opOf, *]):p:=h
theorem qN{p:Prop}(h:p:=by assumption):p:=h
theorem qP{p:Prop}(h:p:=by first|exact List.Perm.refl _|exact List.perm_middle (l₁:=[])|exact List.perm_middle (l₁:=[_])|exact List.perm_middle (l₁:=[_,_])|exact List.perm_middle (l₁:=[_,_,_])|exact List.perm_middle (l₁:=[_,_,_,_])):p:=h
theorem qW{p:Prop}(h:p:=by first|exact hus|(refine List.IsSuffix.trans ?_ hus;(repeat(first|exact List.suffix_refl _|assumption|exact Rv.suf (by assumption)|exact InvW.suf (by assumption)|exact Z3X|(refine List.IsSuffix.trans Z3X ?_)|(refine List.IsSuffix.trans (List.tail_suffix _) ?_)|(refine List.IsSuffix.trans (Rv.suf (by assumption)) ?_)|(refine List.IsSuffix.trans (InvW.suf (by assumption)) ?_))))):p:=h
theorem vD{G H:Prop}(n:H)(h:H->G:=by intro n;(try dsimp only[ya,yb]);exact n):G:=h n
theorem qK{p:Prop}(h:p:=by kernel_rfl):p:=h
theorem yV{p:Prop}(h:p:=by repeat first|exact .here|apply Tl.past|apply Tl.there):p:=h
theorem qS{p:Prop}(h:p:=by repeat first|exact .nil|apply Sel.cons rfl):p:=h
theorem qA{p:Prop}(h:p:=by repeat first|exact .nil|apply Args.one rfl):p:=h
theorem qG{p:Prop}(h:p:=by exact fun G hG=>by repeat(first|exact hG|refine List.mem_cons_of_mem _ ?_)):p:=h
theorem qH{p:Prop}(h:p:=by repeat(first|exact .all|exact .nil|refine Has.own (by repeat first|exact .here|apply Tl.past|apply Tl.there) ?_|refine Has.cons (by repeat(first|exact .here|apply Pk.past|apply Pk.there)) ?_)):p:=h
theorem qB{p:Prop}(h:p:=by repeat(first|exact .slnil|exact List.Sublist.refl _|apply List.Sublist.cons_cons|apply List.Sublist.cons)):p:=h
theorem qR{π:Prop}{K:List (Nat×Ty)}{x:Operand}{T:Ty}(h:opTy K x=some (.opt π T)):KnG π K x T:=.inr ⟨_,h,fun h=>h⟩
def yG(_:List Nat):Prop:=True
section
variable{P:Program}{c:Ctx}{K K0:List (Nat×Ty)}{L:List Own}{Φ:List (World->Prop)}{x:Code}{Q:Exit->Act->World->Prop}{ops:Array Oper}{rest:List Oper}{op:Op}{d:Nat}{ty:TypeId}{pos:String}{after:Array Edge}{T:Ty}{u:Operand}
theorem yS{s:List Nat}(_:yG s)(h:Sel K s K0)(hj:J P c K0 L Φ x Q):J P c K L Φ x Q:=J.sel s h hj
theorem Jq(h:Ob P L Φ (Kn K) ⟨some d,op,ty,pos,after,none⟩ T)(n:JO P c ((d,T)::K) L Φ ops rest Q)(hd:Nat.blt d c.n=true:=by exact rfl):JO P c K L Φ ops (⟨some d,op,ty,pos,after,none⟩::rest) Q:=JO.t h hd n
theorem Jm(h:Kn K u T)(n:JO P c ((d,T)::K) L Φ ops rest Q)(hd:Nat.blt d c.n=true:=by exact rfl):JO P c K L Φ ops (⟨some d,.move u,ty,pos,after,none⟩::rest) Q:=JO.t (Z1 h) hd n
theorem Ja(h:Kn K u T)(n:JO P c ((d,T)::K) L Φ ops rest Q)(hd:Nat.blt d c.n=true:=by exact rfl):JO P c K L Φ ops (⟨some d,.assign u,ty,pos,after,none⟩::rest) Q:=JO.t (Z2l h) hd n
end
theorem vN{G H:Prop}(n:H)(h:H->G:=by intro n;(repeat first|apply yI|apply yX|apply yB);(repeat apply yQ);exact n):G:=h n
theorem vS(s:List Nat){G H:Prop}(n:H)(h:yG s->H->G:=by intro t n;(repeat first|apply yI|apply yX|apply yB);refine yS t (by repeat first|exact .nil|apply Sel.cons rfl) ?_;(repeat apply yQ);exact n):G:=h trivial n
theorem vP(s:List Nat){G H:Prop}(n:H)(h:yG s->H->G:=by intro t n;(repeat first|apply yI|apply yX|apply yB);refine yS t (by repeat first|exact .nil|apply Sel.cons rfl) ?_;(repeat apply yQ);apply yN;exact n):G:=h trivial n
theorem vR{G H:Prop}(n:H)(h:H->G:=by intro n;(repeat apply yQ);apply yT;(repeat first|apply yP|apply yR);exact n):G:=h n
theorem vQ{G H:Prop}(n:H)(h:H->G:=by intro n;(repeat apply yQ);apply yN;exact n):G:=h n
end Go.Vc
namespace Go.Vc
open Go
theorem qZ{p:Prop}(h:p:=by first|decide|(simp only[Z4D,List.length_append,List.length_cons,List.length_nil];omega)|omega|(simp only[Z4D,List.length_append,List.length_cons,List.length_nil]at*;omega)):p:=h
end Go.Vc
namespace Go.Proofs.YtbedigkncjbggaaGreatDoor
open Go Go.Vc
abbrev Z9E:Nat:=3
abbrev ZbS:Nat:=12
abbrev Z56:Nat:=13
abbrev Z9d:Nat:=14
abbrev Zd6:Nat:=15
abbrev Z5P:Nat:=16
abbrev Z73:Nat:=17
abbrev Zdw:Nat:=18
abbrev ZeP:Nat:=24
abbrev Z2X:Nat:=25
abbrev Z46:Nat:=26
abbrev Z8q:Nat:=27
abbrev Z8C:Nat:=28
abbrev Zcz:Nat:=29
abbrev Zdx:Nat:=30
abbrev Z8p:Nat:=31
abbrev Z77:Nat:=32
abbrev Z7j:Nat:=33
abbrev Z7L:Nat:=34
abbrev Z7d:Nat:=35
abbrev Z8A:Nat:=36
abbrev Z8k:Nat:=37
abbrev Z7W:Nat:=38
abbrev Z8B:Nat:=39
abbrev ZbR:Nat:=40
abbrev Z6v:Nat:=41
abbrev Z8o:Nat:=56
abbrev Z94:Nat:=57
abbrev Z3q:Nat:=58
abbrev Z3s:Nat:=59
abbrev Z3H:Nat:=60
abbrev Z3p:Nat:=61
abbrev Z3r:Nat:=62
abbrev Zc2:Nat:=63
abbrev Z89:Nat:=64
abbrev Z8E:Nat:=65
abbrev Z62:Nat:=66
abbrev ZbY:Nat:=67
abbrev Zcq:Nat:=68
abbrev Zb6:Nat:=69
abbrev Zbj:Nat:=70
abbrev Zdj:Nat:=71
abbrev Z9t:Nat:=72
abbrev Z7l:Nat:=73
abbrev Z4V:Nat:=74
abbrev Z8D:Nat:=75
abbrev Z7h:Nat:=76
abbrev Z2W:Nat:=77
abbrev Z8H:Nat:=78
abbrev Z8Z:Nat:=79
abbrev Za0:Nat:=93
abbrev Z9w:Nat:=97
abbrev Zdo:Nat:=98
abbrev Z5C:Nat:=99
abbrev Za8:Nat:=100
abbrev Z4Z:Nat:=101
abbrev Z5D:Nat:=102
abbrev Z5v:Nat:=103
abbrev Z8y:Nat:=104
abbrev Z5i:Nat:=105
abbrev Z6E:Nat:=106
abbrev Z4K:Nat:=107
abbrev Z7N:Nat:=108
abbrev Z8l:Nat:=109
abbrev Z70:Nat:=110
abbrev Z37:Nat:=111
abbrev Z7f:Nat:=112
abbrev ZO:Nat:=113
abbrev Z8j:Nat:=114
abbrev Z5j:Nat:=115
abbrev Z7n:Nat:=116
abbrev Z7T:Nat:=117
abbrev Z85:Nat:=118
abbrev Z96:Nat:=119
abbrev Z5y:Nat:=120
abbrev Z9u:Nat:=121
abbrev Z4h:Nat:=122
abbrev Z1S:Nat:=123
abbrev Z6p:Nat:=124
abbrev ZbX:Nat:=125
abbrev Z8G:Nat:=126
abbrev Z4H:Nat:=127
abbrev Z7c:Nat:=128
abbrev Z9v:Nat:=139
abbrev Z4R:Nat:=140
abbrev Z9K:Nat:=141
abbrev Za1:Nat:=142
abbrev Z7m:Nat:=143
abbrev Z6T:Nat:=144
abbrev Z7M:Nat:=145
abbrev Z3c:Nat:=146
abbrev ZcO:Nat:=164
abbrev Z2h:Nat:=165
abbrev Z38:Nat:=178
abbrev Z2H:Nat:=189
abbrev Z1Y:Nat:=191
abbrev Z2S:Nat:=192
abbrev ZaC:Nat:=193
abbrev Z71:Nat:=194
abbrev Zd0:Nat:=2
abbrev Z48:Nat:=3
abbrev Ze7:Nat:=4
abbrev Z60:Nat:=5
abbrev ZJ:Nat:=9
abbrev Zah:Nat:=23
abbrev Zdg:Nat:=24
abbrev Za6:Nat:=25
abbrev Zbi:Nat:=26
abbrev Z2L:Nat:=28
abbrev Zc0:Nat:=29
abbrev Z3:Nat:=31
abbrev Z2E:Nat:=32
abbrev Zdd:Nat:=40
abbrev Z7:Nat:=42
abbrev Z4d:Nat:=46
abbrev Z1l:Nat:=50
abbrev Z8a:Nat:=59
abbrev Z2Y:Nat:=63
abbrev Z3t:Nat:=70
abbrev Z31:Nat:=76
abbrev Z42:Nat:=78
abbrev Z1p:Nat:=92
abbrev Z1h:Nat:=94
theorem Z6R:ApTy Tryz.prog 23 50 4 32:=⟨by kernel_rfl,by kernel_rfl⟩
theorem Z1j:ApTy Tryz.prog 28 42 8 104:=⟨by kernel_rfl,by kernel_rfl⟩
theorem Z8u:ApTy Tryz.prog 26 46 9 112:=⟨by kernel_rfl,by kernel_rfl⟩
theorem Z9h:ApTy Tryz.prog 29 78 9 112:=⟨by kernel_rfl,by kernel_rfl⟩
theorem Z5b:ApTy Tryz.prog 27 76 3 56:=⟨by kernel_rfl,by kernel_rfl⟩
theorem Z3y:ApTy Tryz.prog 55 94 3 32:=⟨by kernel_rfl,by kernel_rfl⟩
theorem Z6w:ApTy Tryz.prog 25 28 1 24:=⟨by kernel_rfl,by kernel_rfl⟩
theorem Z5A:ApTy Tryz.prog 24 9 1 16:=⟨by kernel_rfl,by kernel_rfl⟩
theorem Z4b:ApTy Tryz.prog 37 5 1 1:=⟨by kernel_rfl,by kernel_rfl⟩
theorem Z6V:elSize Tryz.prog 23=some 4:=by kernel_rfl
theorem Z2A:elSize Tryz.prog 28=some 8:=by kernel_rfl
theorem Z3N:elSize Tryz.prog 26=some 9:=by kernel_rfl
theorem Z55:elSize Tryz.prog 29=some 9:=by kernel_rfl
theorem Z2b:elSize Tryz.prog 27=some 3:=by kernel_rfl
theorem Z1f:elSize Tryz.prog 55=some 3:=by kernel_rfl
theorem Zfx:elSize Tryz.prog 170=some 1:=by kernel_rfl
theorem Z36:elSize Tryz.prog 25=some 1:=by kernel_rfl
theorem Z3m:elSize Tryz.prog 24=some 1:=by kernel_rfl
theorem Zds:elSize Tryz.prog 37=some 1:=by kernel_rfl
theorem Z2F:fldOff Tryz.prog 50 1=some 1:=by kernel_rfl
theorem Z3D:fldOff Tryz.prog 50 2=some 2:=by kernel_rfl
theorem Z2U:fldOff Tryz.prog 50 3=some 3:=by kernel_rfl
theorem Z6u:fldOff Tryz.prog 42 0=some 0:=by kernel_rfl
theorem Z9g:fldOff Tryz.prog 42 1=some 1:=by kernel_rfl
theorem Z6t:fldOff Tryz.prog 42 2=some 4:=by kernel_rfl
theorem Z52:fldOff Tryz.prog 42 3=some 5:=by kernel_rfl
theorem Z9b:fldOff Tryz.prog 42 4=some 6:=by kernel_rfl
theorem Z3v:fldOff Tryz.prog 42 5=some 7:=by kernel_rfl
theorem Z6o:fldOff Tryz.prog 46 0=some 0:=by kernel_rfl
theorem Z9j:fldOff Tryz.prog 46 1=some 1:=by kernel_rfl
theorem Z9B:fldOff Tryz.prog 78 0=some 0:=by kernel_rfl
theorem Z5E:fldOff Tryz.prog 78 1=some 8:=by kernel_rfl
theorem Z7x:fldOff Tryz.prog 76 0=some 0:=by kernel_rfl
theorem Z4g:fldOff Tryz.prog 76 1=some 1:=by kernel_rfl
theorem Z2V:fldOff Tryz.prog 76 2=some 2:=by kernel_rfl
theorem Z2r:fldOff Tryz.prog 31 0=some 0:=by kernel_rfl
theorem Z32:fldOff Tryz.prog 31 1=some 1:=by kernel_rfl
theorem Z1F:fldOff Tryz.prog 31 10=some 10:=by kernel_rfl
theorem Z3O:fldOff Tryz.prog 31 11=some 11:=by kernel_rfl
theorem Z3j:fldOff Tryz.prog 31 12=some 12:=by kernel_rfl
theorem Z4z:fldOff Tryz.prog 31 13=some 13:=by kernel_rfl
theorem Z53:fldOff Tryz.prog 31 2=some 2:=by kernel_rfl
theorem Z2s:fldOff Tryz.prog 31 3=some 3:=by kernel_rfl
theorem Z1k:fldOff Tryz.prog 31 4=some 4:=by kernel_rfl
theorem Z1G:fldOff Tryz.prog 31 5=some 5:=by kernel_rfl
theorem Z1y:fldOff Tryz.prog 31 6=some 6:=by kernel_rfl
theorem Z13:fldOff Tryz.prog 31 7=some 7:=by kernel_rfl
theorem Z26:fldOff Tryz.prog 31 8=some 8:=by kernel_rfl
theorem Z3w:fldOff Tryz.prog 31 9=some 9:=by kernel_rfl
theorem Z1i:fldOff Tryz.prog 94 0=some 0:=by kernel_rfl
theorem Z1x:fldOff Tryz.prog 94 1=some 1:=by kernel_rfl
theorem Z8x:fldOff Tryz.prog 94 2=some 2:=by kernel_rfl
theorem Z4i:fldOff Tryz.prog 70 0=some 0:=by kernel_rfl
theorem ZK:fldOff Tryz.prog 70 1=some 1:=by kernel_rfl
theorem Ze:fldOff Tryz.prog 70 2=some 2:=by kernel_rfl
theorem Z12:fldOff Tryz.prog 92 0=some 0:=by kernel_rfl
theorem Zn:fldOff Tryz.prog 92 1=some 1:=by kernel_rfl
theorem Zq:fldOff Tryz.prog 63 0=some 0:=by kernel_rfl
theorem Zbw:Shape Tryz.prog 171 (fun i=>some (i*1,1)) [.int .i64 0,.int .i64 0,.int .i64 0,.int .i64 0,.int .i64 0,.int .i64 0,.int .i64 0,.int .i64 0,.int .i64 0,.int .i64 0,.int .i64 0,.int .i64 0,.int .i64 0]:=⟨fun _=>by kernel_rfl⟩
theorem Zd1:Shape Tryz.prog 89 (fun i=>some (i*1,1)) [.string ⟨#[]⟩,.string ⟨#[]⟩,.string ⟨#[]⟩,.string ⟨#[]⟩,.string ⟨#[]⟩,.string ⟨#[]⟩,.string ⟨#[]⟩,.string ⟨#[]⟩,.string ⟨#[]⟩,.string ⟨#[]⟩,.string ⟨#[]⟩,.string ⟨#[]⟩,.string ⟨#[]⟩]:=⟨fun _=>by kernel_rfl⟩
theorem ZdH:Shape Tryz.prog 88 (fun i=>some (i*1,1)) [.string ⟨#[]⟩,.string ⟨#[]⟩,.string ⟨#[]⟩,.string ⟨#[]⟩]:=⟨fun _=>by kernel_rfl⟩
theorem Z9i:Shape Tryz.prog 50 (fun i=> #[(0,1),(1,1),(2,1),(3,1)][i]?) [.string ⟨#[]⟩,.int .i64 0,.bool false,.bool false]:=⟨fun _=>by kernel_rfl⟩
theorem Z1a:Shape Tryz.prog 42 (fun i=> #[(0,1),(1,3),(4,1),(5,1),(6,1),(7,1)][i]?) [.int .i64 0,.int .i64 0,.int .i64 0,.string ⟨#[]⟩,.string ⟨#[]⟩,.string ⟨#[]⟩,.int .i64 0,.slice none 0 0]:=⟨fun _=>by kernel_rfl⟩
theorem Z6a:Shape Tryz.prog 46 (fun i=> #[(0,1),(1,8)][i]?) [.bool false,.int .i64 0,.int .i64 0,.int .i64 0,.string ⟨#[]⟩,.string ⟨#[]⟩,.string ⟨#[]⟩,.int .i64 0,.slice none 0 0]:=⟨fun _=>by kernel_rfl⟩
theorem ZaK:Shape Tryz.prog 78 (fun i=> #[(0,8),(8,1)][i]?) [.int .i64 0,.int .i64 0,.int .i64 0,.string ⟨#[]⟩,.string ⟨#[]⟩,.string ⟨#[]⟩,.int .i64 0,.slice none 0 0,.bool false]:=⟨fun _=>by kernel_rfl⟩
theorem Z9n:Shape Tryz.prog 76 (fun i=> #[(0,1),(1,1),(2,1)][i]?) [.string ⟨#[]⟩,.string ⟨#[]⟩,.slice none 0 0]:=⟨fun _=>by kernel_rfl⟩
theorem Z1w:Shape Tryz.prog 31 (fun i=> #[(0,1),(1,1),(2,1),(3,1),(4,1),(5,1),(6,1),(7,1),(8,1),(9,1),(10,1),(11,1),(12,1),(13,1)][i]?) [.int .i64 0,.string ⟨#[]⟩,.string ⟨#[]⟩,.slice none 0 0,.slice none 0 0,.slice none 0 0,.slice none 0 0,.slice none 0 0,.slice none 0 0,.slice none 0 0,.slice none 0 0,.int .i64 0,.slice none 0 0,.bool false]:=⟨fun _=>by kernel_rfl⟩
theorem Z1b:Shape Tryz.prog 94 (fun i=> #[(0,1),(1,1),(2,1)][i]?) [.int .i64 0,.string ⟨#[]⟩,.int .i64 0]:=⟨fun _=>by kernel_rfl⟩
theorem Z2G:Shape Tryz.prog 40 (fun i=> #[(0,1),(1,1),(2,1)][i]?) [.int .i64 0,.int .i64 0,.string ⟨#[]⟩]:=⟨fun _=>by kernel_rfl⟩
theorem Z7e:Shape Tryz.prog 70 (fun i=> #[(0,1),(1,1),(2,1)][i]?) [.slice none 0 0,.int .i64 0,.bool false]:=⟨fun _=>by kernel_rfl⟩
theorem Zbf:Shape Tryz.prog 92 (fun i=> #[(0,1),(1,1)][i]?) [.string ⟨#[]⟩,.int .i64 0]:=⟨fun _=>by kernel_rfl⟩
theorem Z8t:Shape Tryz.prog 59 (fun i=> #[][i]?) []:=⟨fun _=>by kernel_rfl⟩
theorem Z7v:Shape Tryz.prog 63 (fun i=> #[(0,1)][i]?) [.slice none 0 0]:=⟨fun _=>by kernel_rfl⟩
theorem Z74:SlShape Tryz.prog 23 50 4 [.string ⟨#[]⟩,.int .i64 0,.bool false,.bool false]:=⟨by kernel_rfl,by kernel_rfl,by omega⟩
theorem Zy:SlShape Tryz.prog 28 42 8 [.int .i64 0,.int .i64 0,.int .i64 0,.string ⟨#[]⟩,.string ⟨#[]⟩,.string ⟨#[]⟩,.int .i64 0,.slice none 0 0]:=⟨by kernel_rfl,by kernel_rfl,by omega⟩
theorem Z7Y:SlShape Tryz.prog 26 46 9 [.bool false,.int .i64 0,.int .i64 0,.int .i64 0,.string ⟨#[]⟩,.string ⟨#[]⟩,.string ⟨#[]⟩,.int .i64 0,.slice none 0 0]:=⟨by kernel_rfl,by kernel_rfl,by omega⟩
theorem Z9m:SlShape Tryz.prog 29 78 9 [.int .i64 0,.int .i64 0,.int .i64 0,.string ⟨#[]⟩,.string ⟨#[]⟩,.string ⟨#[]⟩,.int .i64 0,.slice none 0 0,.bool false]:=⟨by kernel_rfl,by kernel_rfl,by omega⟩
theorem Z41:SlShape Tryz.prog 27 76 3 [.string ⟨#[]⟩,.string ⟨#[]⟩,.slice none 0 0]:=⟨by kernel_rfl,by kernel_rfl,by omega⟩
theorem Z3B:SlShape Tryz.prog 55 94 3 [.int .i64 0,.string ⟨#[]⟩,.int .i64 0]:=⟨by kernel_rfl,by kernel_rfl,by omega⟩
theorem Z7z:SlShape Tryz.prog 170 3 1 [.int .i64 0]:=⟨by kernel_rfl,by kernel_rfl,by omega⟩
theorem Z4N:SlShape Tryz.prog 25 28 1 [.slice none 0 0]:=⟨by kernel_rfl,by kernel_rfl,by omega⟩
theorem Z25:SlShape Tryz.prog 24 9 1 [.string ⟨#[]⟩]:=⟨by kernel_rfl,by kernel_rfl,by omega⟩
theorem Z4c:SlShape Tryz.prog 37 5 1 [.int .u8 0]:=⟨by kernel_rfl,by kernel_rfl,by omega⟩
theorem Zbp:(Tryz.prog.info? 171).map (·.size)=some 13:=by kernel_rfl
theorem Zdn:(Tryz.prog.info? 89).map (·.size)=some 13:=by kernel_rfl
theorem Zdu:(Tryz.prog.info? 88).map (·.size)=some 4:=by kernel_rfl
theorem Z33:(Tryz.prog.info? 50).map (·.size)=some 4:=by kernel_rfl
theorem Z4m:(Tryz.prog.info? 32).map (·.size)=some 1:=by kernel_rfl
theorem Zc:(Tryz.prog.info? 42).map (·.size)=some 8:=by kernel_rfl
theorem Z4T:(Tryz.prog.info? 46).map (·.size)=some 9:=by kernel_rfl
theorem Z40:(Tryz.prog.info? 78).map (·.size)=some 9:=by kernel_rfl
theorem Z2q:(Tryz.prog.info? 76).map (·.size)=some 3:=by kernel_rfl
theorem Zo:(Tryz.prog.info? 31).map (·.size)=some 14:=by kernel_rfl
theorem ZL:(Tryz.prog.info? 94).map (·.size)=some 3:=by kernel_rfl
theorem Z1A:(Tryz.prog.info? 4).map (·.size)=some 1:=by kernel_rfl
theorem Z29:(Tryz.prog.info? 3).map (·.size)=some 1:=by kernel_rfl
theorem Z7Z:(Tryz.prog.info? 59).map (·.size)=some 0:=by kernel_rfl
theorem Z6P:(Tryz.prog.info? 23).map (·.size)=some 1:=by kernel_rfl
theorem Z1I:(Tryz.prog.info? 28).map (·.size)=some 1:=by kernel_rfl
theorem Z8d:(Tryz.prog.info? 26).map (·.size)=some 1:=by kernel_rfl
theorem Z9f:(Tryz.prog.info? 29).map (·.size)=some 1:=by kernel_rfl
theorem Z44:(Tryz.prog.info? 27).map (·.size)=some 1:=by kernel_rfl
theorem Z4j:(Tryz.prog.info? 55).map (·.size)=some 1:=by kernel_rfl
theorem Z4M:(Tryz.prog.info? 25).map (·.size)=some 1:=by kernel_rfl
theorem Z3P:(Tryz.prog.info? 24).map (·.size)=some 1:=by kernel_rfl
theorem Z2Q:(Tryz.prog.info? 9).map (·.size)=some 1:=by kernel_rfl
theorem Z1Q:szOf Tryz.prog 50=some (some 4):=by kernel_rfl
theorem Z2P:szOf Tryz.prog 32=some none:=by kernel_rfl
theorem Z8:szOf Tryz.prog 42=some (some 8):=by kernel_rfl
theorem Z4X:szOf Tryz.prog 46=some (some 9):=by kernel_rfl
theorem Z3a:szOf Tryz.prog 78=some (some 9):=by kernel_rfl
theorem Z24:szOf Tryz.prog 76=some (some 3):=by kernel_rfl
theorem Zj:szOf Tryz.prog 31=some (some 14):=by kernel_rfl
theorem ZM:szOf Tryz.prog 94=some (some 3):=by kernel_rfl
theorem Z6O:szOf Tryz.prog 40=some (some 3):=by kernel_rfl
theorem Z1O:szOf Tryz.prog 4=some none:=by kernel_rfl
theorem Zx:szOf Tryz.prog 3=some none:=by kernel_rfl
theorem Zd7:szOf Tryz.prog 2=some none:=by kernel_rfl
theorem Z2u:szOf Tryz.prog 23=some none:=by kernel_rfl
theorem ZB:szOf Tryz.prog 28=some none:=by kernel_rfl
theorem Z1H:szOf Tryz.prog 26=some none:=by kernel_rfl
theorem Z2e:szOf Tryz.prog 29=some none:=by kernel_rfl
theorem Z11:szOf Tryz.prog 27=some none:=by kernel_rfl
theorem ZC:szOf Tryz.prog 55=some none:=by kernel_rfl
theorem Z1D:szOf Tryz.prog 25=some none:=by kernel_rfl
theorem Z2n:szOf Tryz.prog 24=some none:=by kernel_rfl
theorem Zr:szOf Tryz.prog 9=some none:=by kernel_rfl
theorem Zgy:szOf Tryz.prog 5=some none:=by kernel_rfl
theorem Zb5:Tryz.prog.underlying 4=some .bool:=by kernel_rfl
theorem Zf0:Tryz.prog.underlying 3=some (.int .i64):=by kernel_rfl
theorem Zcw:Tryz.prog.underlying 2=some (.int .i64):=by kernel_rfl
theorem Zz:Tryz.prog.underlying 100=some (.map 9 98):=by kernel_rfl
theorem Z1C:Tryz.prog.underlying 236=some (.map 9 3):=by kernel_rfl
theorem Z2M:Tryz.prog.underlying 23=some (.slice 50):=by kernel_rfl
theorem Zs:Tryz.prog.underlying 28=some (.slice 42):=by kernel_rfl
theorem Z2i:Tryz.prog.underlying 26=some (.slice 46):=by kernel_rfl
theorem Z2I:Tryz.prog.underlying 29=some (.slice 78):=by kernel_rfl
theorem Z1N:Tryz.prog.underlying 27=some (.slice 76):=by kernel_rfl
theorem ZR:Tryz.prog.underlying 55=some (.slice 94):=by kernel_rfl
theorem Z1P:Tryz.prog.underlying 25=some (.slice 28):=by kernel_rfl
theorem Z1K:Tryz.prog.underlying 24=some (.slice 9):=by kernel_rfl
theorem Z2f:Tryz.prog.underlying 37=some (.slice 5):=by kernel_rfl
theorem Zf:Tryz.prog.underlying 9=some .string:=by kernel_rfl
theorem ZbH:Tryz.prog.underlying 136=some (.int .u64):=by kernel_rfl
theorem Z4v:Tryz.prog.underlying 5=some (.int .u8):=by kernel_rfl
theorem Zbo:zeroOf Tryz.prog 171=some (.agg #[.int .i64 0,.int .i64 0,.int .i64 0,.int .i64 0,.int .i64 0,.int .i64 0,.int .i64 0,.int .i64 0,.int .i64 0,.int .i64 0,.int .i64 0,.int .i64 0,.int .i64 0]):=by kernel_rfl
theorem Zde:zeroOf Tryz.prog 89=some (.agg #[.string ⟨#[]⟩,.string ⟨#[]⟩,.string ⟨#[]⟩,.string ⟨#[]⟩,.string ⟨#[]⟩,.string ⟨#[]⟩,.string ⟨#[]⟩,.string ⟨#[]⟩,.string ⟨#[]⟩,.string ⟨#[]⟩,.string ⟨#[]⟩,.string ⟨#[]⟩,.string ⟨#[]⟩]):=by kernel_rfl
theorem ZdB:zeroOf Tryz.prog 88=some (.agg #[.string ⟨#[]⟩,.string ⟨#[]⟩,.string ⟨#[]⟩,.string ⟨#[]⟩]):=by kernel_rfl
theorem Z50:zeroOf Tryz.prog 50=some (.agg #[.string ⟨#[]⟩,.int .i64 0,.bool false,.bool false]):=by kernel_rfl
theorem Zcf:zeroOf Tryz.prog 32=some (.int .i64 0):=by kernel_rfl
theorem Z14:zeroOf Tryz.prog 42=some (.agg #[.int .i64 0,.int .i64 0,.int .i64 0,.string ⟨#[]⟩,.string ⟨#[]⟩,.string ⟨#[]⟩,.int .i64 0,.slice none 0 0]):=by kernel_rfl
theorem Z7P:zeroOf Tryz.prog 46=some (.agg #[.bool false,.int .i64 0,.int .i64 0,.int .i64 0,.string ⟨#[]⟩,.string ⟨#[]⟩,.string ⟨#[]⟩,.int .i64 0,.slice none 0 0]):=by kernel_rfl
theorem Z5u:zeroOf Tryz.prog 78=some (.agg #[.int .i64 0,.int .i64 0,.int .i64 0,.string ⟨#[]⟩,.string ⟨#[]⟩,.string ⟨#[]⟩,.int .i64 0,.slice none 0 0,.bool false]):=by kernel_rfl
theorem Z30:zeroOf Tryz.prog 76=some (.agg #[.string ⟨#[]⟩,.string ⟨#[]⟩,.slice none 0 0]):=by kernel_rfl
theorem ZT:zeroOf Tryz.prog 31=some (.agg #[.int .i64 0,.string ⟨#[]⟩,.string ⟨#[]⟩,.slice none 0 0,.slice none 0 0,.slice none 0 0,.slice none 0 0,.slice none 0 0,.slice none 0 0,.slice none 0 0,.slice none 0 0,.int .i64 0,.slice none 0 0,.bool false]):=by kernel_rfl
theorem Z1q:zeroOf Tryz.prog 94=some (.agg #[.int .i64 0,.string ⟨#[]⟩,.int .i64 0]):=by kernel_rfl
theorem Z5q:zeroOf Tryz.prog 98=some (.nilFunc):=by kernel_rfl
theorem ZfT:zeroOf Tryz.prog 3=some (.int .i64 0):=by kernel_rfl
theorem Z5T:zeroOf Tryz.prog 59=some (.agg #[]):=by kernel_rfl
theorem hmx:Tryz.prog.follows .mixedOrders=true:=by kernel_rfl
end Go.Proofs.YtbedigkncjbggaaGreatDoor
namespace Go.Pz
open Go Go.Vc
abbrev w_OR:ByteArray:=⟨#[79,82]⟩
abbrev Z1U:ByteArray:=⟨#[65,78,68]⟩
abbrev Z1d:ByteArray:=⟨#[78,79,84]⟩
abbrev w_IS:ByteArray:=⟨#[73,83]⟩
abbrev Z1M:ByteArray:=⟨#[78,85,76,76]⟩
abbrev Z87:ByteArray:=⟨#[84,82,85,69]⟩
abbrev Z6J:ByteArray:=⟨#[70,65,76,83,69]⟩
abbrev Z2y:ByteArray:=⟨#[67,79,85,78,84]⟩
abbrev Z54:ByteArray:=⟨#[83,85,77]⟩
abbrev Z5x:ByteArray:=⟨#[77,73,78]⟩
abbrev Z6c:ByteArray:=⟨#[77,65,88]⟩
abbrev Z6G:ByteArray:=⟨#[84,65,66,76,69]⟩
abbrev Z9Y:ByteArray:=⟨#[73,78,68,69,88]⟩
abbrev w_ON:ByteArray:=⟨#[79,78]⟩
abbrev Z5W:ByteArray:=⟨#[85,83,73,78,71]⟩
abbrev Zay:ByteArray:=⟨#[72,65,83,72]⟩
abbrev Z7q:ByteArray:=⟨#[73,78,84]⟩
abbrev Z6K:ByteArray:=⟨#[66,79,79,76]⟩
abbrev Z7X:ByteArray:=⟨#[84,69,88,84]⟩
abbrev Z3f:ByteArray:=⟨#[80,82,73,77,65,82,89]⟩
abbrev Zax:ByteArray:=⟨#[75,69,89]⟩
abbrev Z3l:ByteArray:=⟨#[85,78,73,81,85,69]⟩
abbrev Zaz:ByteArray:=⟨#[73,78,84,79]⟩
abbrev Z5M:ByteArray:=⟨#[86,65,76,85,69,83]⟩
abbrev Z5G:ByteArray:=⟨#[70,82,79,77]⟩
abbrev Z15:ByteArray:=⟨#[73,78,78,69,82]⟩
abbrev Z35:ByteArray:=⟨#[74,79,73,78]⟩
abbrev Z80:ByteArray:=⟨#[87,72,69,82,69]⟩
abbrev Z5p:ByteArray:=⟨#[71,82,79,85,80]⟩
abbrev w_BY:ByteArray:=⟨#[66,89]⟩
abbrev Z4y:ByteArray:=⟨#[79,82,68,69,82]⟩
abbrev Z5Y:ByteArray:=⟨#[76,73,77,73,84]⟩
abbrev Z6d:ByteArray:=⟨#[65,83,67]⟩
abbrev Z6i:ByteArray:=⟨#[68,69,83,67]⟩
abbrev w_AS:ByteArray:=⟨#[65,83]⟩
abbrev Zc4:ByteArray:=⟨#[83,69,84]⟩
abbrev Z5c:ByteArray:=⟨#[67,82,69,65,84,69]⟩
abbrev Z57:ByteArray:=⟨#[73,78,83,69,82,84]⟩
abbrev Z58:ByteArray:=⟨#[83,69,76,69,67,84]⟩
abbrev Z5h:ByteArray:=⟨#[85,80,68,65,84,69]⟩
abbrev Z5f:ByteArray:=⟨#[68,69,76,69,84,69]⟩
abbrev Z5X:ByteArray:=⟨#[66,69,71,73,78]⟩
abbrev Z59:ByteArray:=⟨#[67,79,77,77,73,84]⟩
abbrev Z3V:ByteArray:=⟨#[82,79,76,76,66,65,67,75]⟩
abbrev s_lp:ByteArray:=⟨#[40]⟩
abbrev s_rp:ByteArray:=⟨#[41]⟩
abbrev ZW:ByteArray:=⟨#[44]⟩
abbrev Z4W:ByteArray:=⟨#[59]⟩
abbrev Z1g:ByteArray:=⟨#[42]⟩
abbrev Z2O:ByteArray:=⟨#[43]⟩
abbrev Z1s:ByteArray:=⟨#[45]⟩
abbrev Z2x:ByteArray:=⟨#[47]⟩
abbrev Z3x:ByteArray:=⟨#[37]⟩
abbrev s_eq:ByteArray:=⟨#[61]⟩
abbrev s_ne:ByteArray:=⟨#[60,62]⟩
abbrev s_lt:ByteArray:=⟨#[60]⟩
abbrev s_le:ByteArray:=⟨#[60,61]⟩
abbrev s_gt:ByteArray:=⟨#[62]⟩
abbrev s_ge:ByteArray:=⟨#[62,61]⟩
abbrev Z6z:ByteArray:=⟨#[46]⟩
def sq(a b:ByteArray):Bool:=a.data.toList==b.data.toList
theorem Z2D(a b:ByteArray):seq a b=sq a b:=by unfold seq sq;rw[ByteArray.toList_eq,ByteArray.toList_eq]
abbrev Ps(α:Type):=List T3->Option (α×List T3)
def isT(k:Int)(s:ByteArray):List T3->Bool
 |t::_=>(t.k==k)&&sq t.t s
 |[]=>false
def skT(k:Int)(s:ByteArray)(ts:List T3):List T3:=if isT k s ts then ts.tail else ts
def wantP(k:Int)(s:ByteArray):Ps Unit:=fun ts=>if isT k s ts then some ((),ts.tail)else none
def takeP(k:Int):Ps T3
 |t::r=>if t.k==k then some (t,r)else none
 |[]=>none
def nameP:Ps ByteArray:=fun ts=>(takeP 2 ts).map fun z=>(z.1.t,z.2)
abbrev em:ByteArray:=⟨#[]⟩
abbrev nd(k:Int)(kids:List Ex):Ex:=.mk k 0 0 em em em 0 kids
abbrev lit(vk vn:Int)(vs:ByteArray):Ex:=.mk 1 vk vn vs em em 0 []
abbrev ex0:Ex:=.mk 0 0 0 em em em 0 []
def opOf(k:Int):List (ByteArray×Int)->List T3->Option Int
 |[],_=>none
 |(s,n)::l,ts=>if isT k s ts then some n else opOf k l ts
def chainG(part:Ps Ex)(k:Int)(ops:List (ByteArray×Int)):Nat->Ex->Ps Ex
 |0,x,ts=>some (x,ts)
 |n+1,x,ts=>match opOf k ops ts with
   |none=>some (x,ts)
   |some q=>(part ts.tail).bind fun z=>chainG part k ops n (nd q [x,z.1]) z.2
def chainP(part:Ps Ex)(k:Int)(ops:List (ByteArray×Int)):Ps Ex:=fun ts=>(part ts).bind fun z=>chainG part k ops z.2.length z.1 z.2
abbrev mulO:List (ByteArray×Int):=[(Z1g,7),(Z2x,8),(Z3x,9)]
abbrev addO:List (ByteArray×Int):=[(Z2O,5),(Z1s,6)]
abbrev cmpO:List (ByteArray×Int):=[(s_eq,10),(s_ne,11),(s_lt,12),(s_le,13),(s_gt,14),(s_ge,15)]
def aggK(s:ByteArray):Option Int:=if sq s Z2y then some 20 else if sq s Z54 then some 21 else if sq s Z5x then some 22 else if sq s Z6c then some 23 else none
def kwP(e:Ps Ex):Ps Ex:=fun ts=>(takeP 1 ts).bind fun z=>
 if sq z.1.t Z87 then some (lit 2 1 em,z.2)
 else if sq z.1.t Z6J then some (lit 2 0 em,z.2)
 else if sq z.1.t Z1M then some (lit 0 0 em,z.2)
 else match aggK z.1.t with
   |none=>none
   |some q=>(wantP 5 s_lp z.2).bind fun y=>
     if sq z.1.t Z2y&&isT 5 Z1g y.2 then(wantP 5 s_rp y.2.tail).map fun v=>(nd 20 [],v.2)
     else(e y.2).bind fun x=>(wantP 5 s_rp x.2).map fun v=>(nd q [x.1],v.2)
def atomP(e:Ps Ex):Ps Ex
 |[]=>none
 |t::r=>
   if t.k==3 then some (lit 1 t.n em,r)
   else if t.k==4 then some (lit 3 0 t.t,r)
   else if t.k==2 then(if isT 5 Z6z r then(nameP r.tail).map fun z=>(.mk 2 0 0 em t.t z.1 0 [],z.2)else some (.mk 2 0 0 em em t.t 0 [],r))
   else if t.k==1 then kwP e (t::r)
   else(wantP 5 s_lp (t::r)).bind fun y=>(e y.2).bind fun x=>(wantP 5 s_rp x.2).map fun v=>(x.1,v.2)
def factorP(e:Ps Ex):Ps Ex
 |[]=>atomP e []
 |t::r=>if isT 5 Z1s (t::r)then(factorP e r).map fun z=>(nd 3 [z.1],z.2)else atomP e (t::r)
def prodP(e:Ps Ex):Ps Ex:=chainP (factorP e) 5 mulO
def sumP(e:Ps Ex):Ps Ex:=chainP (prodP e) 5 addO
def cmpP(e:Ps Ex)(x:Ex):Ps Ex:=fun ts=>match opOf 5 cmpO ts with
 |some q=>(sumP e ts.tail).map fun z=>(nd q [x,z.1],z.2)
 |none=>if isT 1 w_IS ts then(if isT 1 Z1d ts.tail then(wantP 1 Z1M ts.tail.tail).map fun v=>(nd 19 [x],v.2)else(wantP 1 Z1M ts.tail).map fun v=>(nd 18 [x],v.2))else some (x,ts)
def notP(e:Ps Ex):Ps Ex
 |[]=>(sumP e []).bind fun z=>cmpP e z.1 z.2
 |t::r=>if isT 1 Z1d (t::r)then(notP e r).map fun z=>(nd 4 [z.1],z.2)else(sumP e (t::r)).bind fun z=>cmpP e z.1 z.2
def andP(e:Ps Ex):Ps Ex:=chainP (notP e) 1 [(Z1U,16)]
def orP(e:Ps Ex):Ps Ex:=chainP (andP e) 1 [(w_OR,17)]
def exprP:Nat->Ps Ex
 |0=>fun _=>none
 |n+1=>orP (exprP n)
def exprX:Ps Ex:=fun ts=>exprP (ts.length+1) ts
def listG{α:Type}(part:Ps α):Nat->Ps (List α)
 |0,ts=>some ([],ts)
 |n+1,ts=>if isT 5 ZW ts then(part ts.tail).bind fun z=>(listG part n z.2).map fun y=>(z.1::y.1,y.2)else some ([],ts)
def listP{α:Type}(most:Nat)(part:Ps α):Ps (List α):=fun ts=>(part ts).bind fun z=>(listG part z.2.length z.2).bind fun y=>if y.1.length+1<=most then some (z.1::y.1,y.2)else none
def withinP{α:Type}(part:Ps α):Ps (List α):=fun ts=>(wantP 5 s_lp ts).bind fun a=>(listP 16 part a.2).bind fun l=>(wantP 5 s_rp l.2).map fun v=>(l.1,v.2)
structure Col where
 nm:ByteArray
 ty:Int
 nn:Bool
 un:Bool
structure Src where
 tb:ByteArray
 nm:ByteArray
 on:List Ex
structure Itm where
 all:Bool
 ex:Ex
structure Ky where
 ex:Ex
 desc:Bool
structure St where
 kind:Int
 tb:ByteArray
 nm:ByteArray
 cols:List Col
 names:List ByteArray
 rows:List (List Ex)
 items:List Itm
 from_:List Src
 where_:List Ex
 group:List Ex
 order:List Ky
 limit:Int
 sets:List Ex
 hash:Bool
def st0:St:=⟨0,em,em,[],[],[],[],[],[],[],[],0,[],false⟩
def stK(k:Int):St:=⟨k,em,em,[],[],[],[],[],[],[],[],-1,[],false⟩
def typeP:Ps Int:=fun ts=>if isT 1 Z7q ts then some (1,ts.tail)else if isT 1 Z6K ts then some (2,ts.tail)else if isT 1 Z7X ts then some (3,ts.tail)else none
def colEnd(n:ByteArray)(t:Int)(nn:Bool):Ps Col:=fun ts=>
 if isT 1 Z3f ts then(wantP 1 Zax ts.tail).map fun v=>(⟨n,t,true,true⟩,v.2)else some (⟨n,t,nn,isT 1 Z3l ts⟩,skT 1 Z3l ts)
def colP:Ps Col:=fun ts=>(nameP ts).bind fun n=>(typeP n.2).bind fun t=>
 if isT 1 Z1d t.2 then(wantP 1 Z1M t.2.tail).bind fun v=>colEnd n.1 t.1 true v.2 else colEnd n.1 t.1 false t.2
def createP:Ps St:=fun ts=>
 if isT 1 Z6G ts then(nameP ts.tail).bind fun n=>(withinP colP n.2).map fun c=>({stK 1 with tb:=n.1,cols:=c.1},c.2)
 else(wantP 1 Z9Y ts).bind fun a=>(nameP a.2).bind fun n=>(wantP 1 w_ON n.2).bind fun b=>(nameP b.2).bind fun t=>(wantP 5 s_lp t.2).bind fun c=>(nameP c.2).bind fun m=>(wantP 5 s_rp m.2).bind fun d=>
   if isT 1 Z5W d.2 then(wantP 1 Zay d.2.tail).map fun v=>({stK 2 with nm:=n.1,tb:=t.1,names:=[m.1],hash:=true},v.2)
   else some ({stK 2 with nm:=n.1,tb:=t.1,names:=[m.1]},d.2)
def isLp:List T3->Bool
 |t::_=>(t.k==5)&&(sq t.t s_lp&&(t.n==0))
 |[]=>false
def insRows(e:Ps Ex)(tb:ByteArray)(ns:List ByteArray):Ps St:=fun ts=>(wantP 1 Z5M ts).bind fun a=>(listP 32 (withinP e) a.2).map fun r=>({stK 3 with tb:=tb,names:=ns,rows:=r.1},r.2)
def insertP(e:Ps Ex):Ps St:=fun ts=>(wantP 1 Zaz ts).bind fun a=>(nameP a.2).bind fun n=>
 if isLp n.2 then(withinP nameP n.2).bind fun l=>insRows e n.1 l.1 l.2 else insRows e n.1 [] n.2
def itemP(e:Ps Ex):Ps Itm:=fun ts=>if isT 5 Z1g ts then some (⟨true,ex0⟩,ts.tail)else(e ts).map fun z=>(⟨false,z.1⟩,z.2)
def isK(k:Int):List T3->Bool
 |t::_=>t.k==k
 |[]=>false
def sourceP:Ps Src:=fun ts=>(nameP ts).bind fun n=>
 if isT 1 w_AS n.2 then(nameP n.2.tail).map fun m=>(⟨n.1,m.1,[]⟩,m.2)
 else if isK 2 n.2 then(nameP n.2).map fun m=>(⟨n.1,m.1,[]⟩,m.2)else some (⟨n.1,n.1,[]⟩,n.2)
def keyP(e:Ps Ex):Ps Ky:=fun ts=>(e ts).map fun z=>if isT 1 Z6d z.2 then(⟨z.1,false⟩,z.2.tail)else(⟨z.1,isT 1 Z6i z.2⟩,skT 1 Z6i z.2)
def whereP(e:Ps Ex):Ps (List Ex):=fun ts=>if isT 1 Z80 ts then(e ts.tail).map fun z=>([z.1],z.2)else some ([],ts)
def joinP(e:Ps Ex):Ps Src:=fun ts=>(wantP 1 Z35 ts).bind fun a=>(sourceP a.2).bind fun s=>(wantP 1 w_ON s.2).bind fun b=>(e b.2).map fun x=>({s.1 with on:=[x.1]},x.2)
def joinsG(e:Ps Ex):Nat->Ps (List Src)
 |0,ts=>some ([],ts)
 |n+1,ts=>if isT 1 Z15 ts||isT 1 Z35 ts then(joinP e (skT 1 Z15 ts)).bind fun s=>(joinsG e n s.2).map fun y=>(s.1::y.1,y.2)else some ([],ts)
def groupP(e:Ps Ex):Ps (List Ex):=fun ts=>if isT 1 Z5p ts then(wantP 1 w_BY ts.tail).bind fun a=>listP 16 e a.2 else some ([],ts)
def orderP(e:Ps Ex):Ps (List Ky):=fun ts=>if isT 1 Z4y ts then(wantP 1 w_BY ts.tail).bind fun a=>listP 16 (keyP e) a.2 else some ([],ts)
def limitP:Ps Int:=fun ts=>if isT 1 Z5Y ts then(takeP 3 ts.tail).map fun z=>(z.1.n,z.2)else some (-1,ts)
def queryP(e:Ps Ex):Ps St:=fun ts=>(listP 16 (itemP e) ts).bind fun i=>(wantP 1 Z5G i.2).bind fun a=>(sourceP a.2).bind fun s=>(joinsG e s.2.length s.2).bind fun j=>
 if j.1.length+1<=4 then(whereP e j.2).bind fun w=>(groupP e w.2).bind fun g=>(orderP e g.2).bind fun o=>(limitP o.2).map fun l=>
  ({stK 4 with items:=i.1,from_:=s.1::j.1,where_:=w.1,group:=g.1,order:=o.1,limit:=l.1},l.2)
 else none
def setP(e:Ps Ex):Ps (ByteArray×Ex):=fun ts=>(nameP ts).bind fun n=>(wantP 5 s_eq n.2).bind fun a=>(e a.2).map fun x=>((n.1,x.1),x.2)
def updateP(e:Ps Ex):Ps St:=fun ts=>(nameP ts).bind fun n=>(wantP 1 Zc4 n.2).bind fun a=>(listP 16 (setP e) a.2).bind fun l=>(whereP e l.2).map fun w=>
 ({stK 5 with tb:=n.1,names:=l.1.map (·.1),sets:=l.1.map (·.2),where_:=w.1},w.2)
def removeP(e:Ps Ex):Ps St:=fun ts=>(wantP 1 Z5G ts).bind fun a=>(nameP a.2).bind fun n=>(whereP e n.2).map fun w=>({stK 6 with tb:=n.1,where_:=w.1},w.2)
def stmtP(e:Ps Ex):Ps St:=fun ts=>(takeP 1 ts).bind fun w=>
 if sq w.1.t Z5c then createP w.2 else if sq w.1.t Z57 then insertP e w.2 else if sq w.1.t Z58 then queryP e w.2
 else if sq w.1.t Z5h then updateP e w.2 else if sq w.1.t Z5f then removeP e w.2
 else if sq w.1.t Z5X then some (stK 7,w.2)else if sq w.1.t Z59 then some (stK 8,w.2)else if sq w.1.t Z3V then some (stK 9,w.2)else none
mutual
def hgt:Ex->Nat
 | .mk _ _ _ _ _ _ _ kids=>hgts kids+1
def hgts:List Ex->Nat
 |[]=>0
 |x::xs=>max (hgt x) (hgts xs)
end
def exsOf(s:St):List Ex:=s.rows.flatten++s.items.map (·.ex)++(s.from_.map (·.on)).flatten++s.order.map (·.ex)++s.where_++s.group++s.sets
def deepS(s:St):Bool:=(exsOf s).any fun x=>decide (32<hgt x)
def wholeP(ts:List T3):Option St:=(stmtP (exprP (ts.length+1)) ts).bind fun z=>match skT 5 Z4W z.2 with|[]=>some z.1|_::_=>none
def readT(ts:List T3):St×Int:=match wholeP ts with
 |none=>(st0,30)
 |some s=>if deepS s then(st0,31)else(s,0)
def readS(l:List T3×Int):St×Int:=if l.2==0 then readT l.1 else(st0,l.2)
end Go.Pz
namespace Go.Pz
open Go Go.Vc
def Lt(r ts:List T3):Prop:=r<:+ts/\r.length<ts.length
theorem Lt.trans{a b c:List T3}(h:Lt a b)(k:b<:+c):Lt a c:=⟨h.1.trans k,Nat.lt_of_lt_of_le h.2 k.length_le⟩
theorem Lt.trans'{a b c:List T3}(h:a<:+b)(k:Lt b c):Lt a c:=⟨h.trans k.1,Nat.lt_of_le_of_lt h.length_le k.2⟩
theorem Lt.cons(t:T3)(r:List T3):Lt r (t::r):=⟨List.suffix_cons t r,by simp⟩
def Dn{α:Type}(p:Ps α):Prop:=∀ts z,p ts=some z->Lt z.2 ts
def Dn0{α:Type}(p:Ps α):Prop:=∀ts z,p ts=some z->z.2<:+ts
theorem Dn.le{α:Type}{p:Ps α}(h:Dn p):Dn0 p:=fun ts z e=>(h ts z e).1
theorem Z5a{k:Int}{s:ByteArray}{ts:List T3}(h:isT k s ts=true): ∃t r,ts=t::r/\t.k=k/\t.t.data.toList=s.data.toList:=by
 cases ts with
 |nil=>cases h
 |cons t r=>
   simp only[isT,Bool.and_eq_true,beq_iff_eq,sq]at h;exact⟨t,r,rfl,h.1,h.2⟩
theorem ZG{k:Int}{s:ByteArray}{ts:List T3}(h:isT k s ts=true):Lt ts.tail ts:=by
 obtain⟨t,r,rfl,_⟩:=Z5a h;exact Lt.cons t r
theorem Z2o(k:Int)(s:ByteArray)(ts:List T3):skT k s ts<:+ts:=by
 unfold skT;split
 · exact List.tail_suffix ts
 · exact List.suffix_refl ts
theorem Zk(k:Int)(s:ByteArray):Dn (wantP k s):=fun ts z h=>by
 unfold wantP at h
 split at h
 · rename_i hi;injection h with h;subst h;exact ZG hi
 · cases h
theorem Z1c(k:Int):Dn (takeP k):=fun ts z h=>by
 cases ts with
 |nil=>cases h
 |cons t r=>
   rw[takeP]at h
   split at h
   · injection h with h;subst h;exact Lt.cons t r
   · cases h
theorem Dn.map{α β:Type}{p:Ps α}(hp:Dn p)(f:α×List T3->β):Dn (fun ts=>(p ts).map fun z=>(f z,z.2)):=fun ts z h=>by
 obtain⟨y,hy,rfl⟩:=Option.map_eq_some_iff.1 h;exact hp ts y hy
theorem ZV:Dn nameP:=(Z1c 2).map _
theorem bnd{α β:Type}{p:Option α}{f:α->Option β}{z:β}(h:p.bind f=some z): ∃y,p=some y/\f y=some z:=Option.bind_eq_some_iff.1 h
theorem mpd{α β:Type}{p:Option α}{f:α->β}{z:β}(h:p.map f=some z): ∃y,p=some y/\f y=z:=Option.map_eq_some_iff.1 h
theorem Z3i{k:Int}{q:Int}: ∀{l:List (ByteArray×Int)} {ts:List T3},opOf k l ts=some q->Lt ts.tail ts
 |[],_,h=>by cases h
 |(s,n)::l,ts,h=>by
   unfold opOf at h
   split at h
   · rename_i hi;exact ZG hi
   · exact Z3i h
theorem ZbF{part:Ps Ex}{k:Int}{ops:List (ByteArray×Int)}(hp:Dn0 part): ∀(n:Nat) (x:Ex),Dn0 (chainG part k ops n x)
 |0,x,ts,z,h=>by unfold chainG at h;injection h with h;subst h;exact List.suffix_refl ts
 |n+1,x,ts,z,h=>by
   unfold chainG at h
   split at h
   · injection h with h;subst h;exact List.suffix_refl ts
   · rename_i q hq
     obtain⟨y,h1,h2⟩:=bnd h;exact((ZbF hp n _ _ _ h2).trans (hp _ _ h1)).trans (Z3i hq).1
theorem Z7y{part:Ps Ex}{k:Int}{ops:List (ByteArray×Int)}(hp:Dn part):Dn (chainP part k ops):=fun ts z h=>by
 obtain⟨y,h1,h2⟩:=bnd h;exact Lt.trans' (ZbF hp.le _ _ _ _ h2) (hp _ _ h1)
theorem Zif{e:Ps Ex}(he:Dn0 e):Dn (kwP e):=fun ts z h=>by
 obtain⟨y,h1,h2⟩:=bnd h;have h3:=Z1c 1 _ _ h1
 split at h2
 · injection h2 with h2;subst h2;exact h3
 · split at h2
   · injection h2 with h2;subst h2;exact h3
   · split at h2
     · injection h2 with h2;subst h2;exact h3
     · split at h2
       · cases h2
       · obtain⟨u,h4,h5⟩:=bnd h2
         have h6:=Lt.trans (Zk _ _ _ _ h4) h3.1
         split at h5
         · rename_i hi
           simp only[Bool.and_eq_true]at hi;obtain⟨v,h7,rfl⟩:=mpd h5;exact Lt.trans (Zk _ _ _ _ h7) ((ZG hi.2).1.trans h6.1)
         · obtain⟨v,h7,h8⟩:=bnd h5
           obtain⟨v',h9,rfl⟩:=mpd h8;exact Lt.trans (Zk _ _ _ _ h9) ((he _ _ h7).trans h6.1)
theorem Zcd{e:Ps Ex}(he:Dn0 e):Dn (atomP e):=fun ts z h=>by
 cases ts with
 |nil=>cases h
 |cons t r=>
   rw[atomP]at h
   split at h
   · injection h with h;subst h;exact Lt.cons t r
   · split at h
     · injection h with h;subst h;exact Lt.cons t r
     · split at h
       · split at h
         · rename_i hi
           obtain⟨v,h7,rfl⟩:=mpd h;exact Lt.trans (ZV _ _ h7) ((ZG hi).1.trans (Lt.cons t r).1)
         · injection h with h;subst h;exact Lt.cons t r
       · split at h
         · exact Zif he _ _ h
         · obtain⟨u,h4,h5⟩:=bnd h
           obtain⟨v,h7,h8⟩:=bnd h5;obtain⟨v',h9,rfl⟩:=mpd h8;exact Lt.trans (Zk _ _ _ _ h9) ((he _ _ h7).trans (Zk _ _ _ _ h4).1)
theorem Z4B{e:Ps Ex}(he:Dn0 e):Dn (factorP e)
 |[],z,h=>by rw[factorP]at h;exact Zcd he _ _ h
 |t::r,z,h=>by
   rw[factorP]at h
   split at h
   · obtain⟨v,h7,rfl⟩:=mpd h
     exact Lt.trans (Z4B he r v h7) (Lt.cons t r).1
   · exact Zcd he _ _ h
theorem Z72{e:Ps Ex}(he:Dn0 e):Dn (prodP e):=Z7y (Z4B he)
theorem Z3k{e:Ps Ex}(he:Dn0 e):Dn (sumP e):=Z7y (Z72 he)
theorem ZdY{e:Ps Ex}(he:Dn0 e)(x:Ex):Dn0 (cmpP e x):=fun ts z h=>by
 unfold cmpP at h
 split at h
 · rename_i q hq
   obtain⟨v,h7,rfl⟩:=mpd h;exact(Z3k he _ _ h7).1.trans (Z3i hq).1
 · split at h
   · rename_i hi
     split at h
     · rename_i hj
       obtain⟨v,h7,rfl⟩:=mpd h;exact((Zk _ _ _ _ h7).1.trans (ZG hj).1).trans (ZG hi).1
     · obtain⟨v,h7,rfl⟩:=mpd h
       exact(Zk _ _ _ _ h7).1.trans (ZG hi).1
   · injection h with h;subst h;exact List.suffix_refl ts
theorem Z6H{e:Ps Ex}(he:Dn0 e):Dn (notP e)
 |[],z,h=>by
   rw[notP]at h;obtain⟨y,h1,h2⟩:=bnd h;exact Lt.trans' (ZdY he _ _ _ h2) (Z3k he _ _ h1)
 |t::r,z,h=>by
   rw[notP]at h
   split at h
   · obtain⟨v,h7,rfl⟩:=mpd h
     exact Lt.trans (Z6H he r v h7) (Lt.cons t r).1
   · obtain⟨y,h1,h2⟩:=bnd h
     exact Lt.trans' (ZdY he _ _ _ h2) (Z3k he _ _ h1)
theorem Z8h{e:Ps Ex}(he:Dn0 e):Dn (andP e):=Z7y (Z6H he)
theorem ZfL{e:Ps Ex}(he:Dn0 e):Dn (orP e):=Z7y (Z8h he)
theorem Z2K: ∀n,Dn (exprP n)
 |0,ts,z,h=>by cases h
 |n+1,ts,z,h=>ZfL (Z2K n).le ts z h
theorem Z5N:Dn exprX:=fun ts z h=>Z2K _ ts z h
def Eq_(n:Nat)(e e':Ps Ex):Prop:=∀ts,ts.length<n->e ts=e' ts
theorem Zm{α β:Type}{p:Option α}{f g:α->Option β}(h: ∀y,p=some y->f y=g y):p.bind f=p.bind g:=by
 cases p with
 |none=>rfl
 |some y=>exact h y rfl
theorem ZbG{part part':Ps Ex}{k:Int}{ops:List (ByteArray×Int)}{N:Nat}(hp:Dn0 part)(h:Eq_ N part part'): ∀(n:Nat) (x:Ex) (ts:List T3),ts.length<=N->chainG part k ops n x ts=chainG part' k ops n x ts
 |0,_,_,_=>rfl
 |n+1,x,ts,hl=>by
   unfold chainG
   split
   · rfl
   · rename_i q hq
     have h1:=Z3i hq;rw[<-h ts.tail (by have:=h1.2;omega)];exact Zm fun y hy=>ZbG hp h n _ _ (by have:=(hp _ _ hy).length_le;have:=h1.2;omega)
theorem Z7u{part part':Ps Ex}{k:Int}{ops:List (ByteArray×Int)}{N:Nat}(hp:Dn part)(h:Eq_ N part part'):Eq_ N (chainP part k ops) (chainP part' k ops):=fun ts hl=>by
 unfold chainP;rw[<-h ts hl];exact Zm fun y hy=>ZbG hp.le h _ _ _ (by have:=(hp _ _ hy).2;omega)
section
variable{e e':Ps Ex}{N:Nat}(h:Eq_ N e e')
include h
theorem ZhZ(ts:List T3)(hl:ts.length<=N):kwP e ts=kwP e' ts:=by
 unfold kwP;refine Zm fun y hy=>?_;have h1:=(Z1c 1 _ _ hy).2
 split
 · rfl
 · split
   · rfl
   · split
     · rfl
     · split
       · rfl
       · refine Zm fun u hu=>?_
         have h2:=(Zk _ _ _ _ hu).2
         split
         · rfl
         · rw[h u.2 qM]
theorem Zdc: ∀(ts:List T3),ts.length<=N->atomP e ts=atomP e' ts
 |[],_=>rfl
 |t::r,hl=>by
   rw[atomP,atomP,ZhZ h (t::r) hl];have hb:((wantP 5 s_lp (t::r)).bind fun y=>(e y.2).bind fun x=>(wantP 5 s_rp x.2).map fun v=>(x.1,v.2))=((wantP 5 s_lp (t::r)).bind fun y=>(e' y.2).bind fun x=>(wantP 5 s_rp x.2).map fun v=>(x.1,v.2)):=
     Zm fun y hy=>by
       have h1:=(Zk _ _ _ _ hy).2;rw[h y.2 qM]
   rw[hb]
theorem ZaP: ∀(ts:List T3),ts.length<=N->factorP e ts=factorP e' ts
 |[],hl=>by rw[factorP,factorP];exact Zdc h [] hl
 |t::r,hl=>by
   rw[factorP,factorP,ZaP r (by simp at hl;omega),Zdc h (t::r) hl]
end
theorem Zgx{e e':Ps Ex}{N:Nat}(he:Dn0 e)(h:Eq_ N e e'):Eq_ (N+1) (prodP e) (prodP e'):=Z7u (Z4B he) fun ts hl=>ZaP h ts qM
theorem Zbb{e e':Ps Ex}{N:Nat}(he:Dn0 e)(h:Eq_ N e e'):Eq_ (N+1) (sumP e) (sumP e'):=Z7u (Z72 he) (Zgx he h)
theorem Ze9{e e':Ps Ex}{N:Nat}(he:Dn0 e)(h:Eq_ N e e')(x:Ex):Eq_ (N+1) (cmpP e x) (cmpP e' x):=fun ts hl=>by
 unfold cmpP
 split
 · rename_i q hq
   rw[Zbb he h ts.tail (by have:=(Z3i hq).2;omega)]
 · rfl
theorem ZdX{e e':Ps Ex}{N:Nat}(he:Dn0 e)(h:Eq_ N e e'):Eq_ (N+1) (notP e) (notP e')
 |[],hl=>by
   rw[notP,notP,<-Zbb he h [] hl];exact Zm fun y hy=>Ze9 he h _ _ (by have:=(Z3k he _ _ hy).2;omega)
 |t::r,hl=>by
   rw[notP,notP,ZdX he h r (by simp at hl;omega),<-Zbb he h (t::r) hl]
   congr 1
   exact Zm fun y hy=>Ze9 he h _ _ (by have:=(Z3k he _ _ hy).2;omega)
theorem Zhj{e e':Ps Ex}{N:Nat}(he:Dn0 e)(h:Eq_ N e e'):Eq_ (N+1) (andP e) (andP e'):=Z7u (Z6H he) (ZdX he h)
theorem Zfk{e e':Ps Ex}{N:Nat}(he:Dn0 e)(h:Eq_ N e e'):Eq_ (N+1) (orP e) (orP e'):=Z7u (Z8h he) (Zhj he h)
theorem ZaM: ∀n m,n<=m->Eq_ n (exprP n) (exprP m)
 |0,_,_=>fun ts hl=>absurd hl qM
 |n+1,0,h=>absurd h qM
 |n+1,m+1,h=>Zfk (Z2K n).le (ZaM n m qM)
theorem ZcH{n:Nat}:Eq_ n exprX (exprP n):=fun ts hl=>(ZaM (ts.length+1) n qM) ts qM
theorem Zdl(ts:List T3):exprX ts=orP exprX ts:=by
 show orP (exprP ts.length) ts=orP exprX ts;exact(Zfk (N:=ts.length) Z5N.le ZcH ts qM).symm
end Go.Pz
namespace Go.Proofs.YtbedigkncjbggaaGreatDoor
open Go Go.Vc Go.Pz
structure Tk where
 ts:List T3
 bb:Nat
 o:Nat
 cap:Nat
variable(T:Tk)
abbrev Tk.k(ts:List T3):Nat:=T.ts.length-ts.length
def Tk.j(ts:List T3):Nat:=if T.k ts=T.cap then T.k ts-1 else T.k ts
abbrev Tk.G:World->Prop:=RowG T3.cells 3 T.ts (some ⟨T.bb,T.o,none⟩) T.ts.length
abbrev Tk.sl(ts:List T3):Value:=.slice (some ⟨T.bb,T.o+3*T.j ts,none⟩) ts.length (T.cap-T.k ts)
abbrev PB(b:Nat)(ts:List T3):Own:=⟨b,Z2Y,.is (.agg #[T.sl ts])⟩
variable{T}
theorem Tk.j_eq{ts:List T3}(hc:T.ts.length<=T.cap)(hs:ts<:+T.ts)(h:ts≠[]):T.j ts=T.k ts:=by
 have:=hs.length_le;have:0<ts.length:=List.length_pos_iff.2 h;unfold Tk.j;rw[if_neg (by show ¬(T.ts.length-ts.length=T.cap);omega)]
theorem Tk.head{ts:List T3}(hs:ts<:+T.ts)(h:ts≠[]):T.ts[T.k ts]? =some (ts.headD t3D):=by
 obtain⟨us,e⟩:=hs;cases ts with
 |nil=>exact absurd rfl h
 |cons t r=>
   show T.ts[T.ts.length-(t::r).length]? =some t;rw[<-e];simp
theorem Tk.tail{ts:List T3}(hc:T.ts.length<=T.cap)(hs:ts<:+T.ts)(h:ts≠[]):(Value.slice (adS (some ⟨T.bb,T.o+3*T.j ts,none⟩) 1 (T.cap-T.k ts) 3) (ts.length-1) (T.cap-T.k ts-1))=T.sl ts.tail:=by
 have h1:=hs.length_le;have h2:0<ts.length:=List.length_pos_iff.2 h;have h3:ts.tail.length=ts.length-1:=by simp
 rw[Tk.j_eq hc hs h];have h4:T.k ts.tail=T.k ts+1:=by unfold Tk.k;omega
 have h5:T.j ts.tail=if T.cap-T.k ts=1 then T.k ts else T.k ts+1:=by
   unfold Tk.j;rw[h4]
   by_cases hq:T.cap-T.k ts=1
   · rw[if_pos hq,if_pos (by unfold Tk.k at*;omega)];omega
   · rw[if_neg hq,if_neg (by unfold Tk.k at*;omega)]
 unfold Tk.sl;rw[h5,h4,h3]
 by_cases hq:T.cap-T.k ts=1
 · rw[if_pos hq];unfold adS;rw[if_pos hq];rfl
 · rw[if_neg hq];unfold adS;rw[if_neg hq,Option.map_some,Z4a]
   congr 1
end Go.Proofs.YtbedigkncjbggaaGreatDoor
set_option maxRecDepth 20000
namespace Go.Proofs.YtbedigkncjbggaaGreatDoor
open Go Go.Vc
open Go.Pz
theorem Z8b{ts:List T3}(h:((ts.length:Int)==0)=false):ts≠[]:=fun e=>by subst e;cases h
theorem Z2T{ts:List T3}(h:ts≠[]):(0:Int)<ts.length:=by have:=List.length_pos_iff.2 h;omega
theorem Zew{a b:Bool}(h:(a||b)=false):a=false:=by cases a<;>simp_all
theorem Zcv(k:Int)(s:ByteArray)(ts:List T3):(((((ts.length:Nat):Int)==0)||((ts.headD t3D).k != k))|| !(seq (ts.headD t3D).t s))= !(isT k s ts):=by
 cases ts with
 |nil=>rfl
 |cons t r=>
   rw[Z2D];have:((((t::r).length:Nat):Int)==0)=false:=by rw[beq_eq_false_iff_ne];simp;omega
   rw[this,Bool.false_or];show((!(t.k==k))|| !(sq t.t s))= !((t.k==k)&&sq t.t s);rw[<-Bool.not_and]
abbrev flt:List PanicEntry:=[{v:=.iface Z8a (.agg #[]),recovered:=false}]
theorem ZaG{k:Int}{s:ByteArray}{ts:List T3}(h:isT k s ts=true):ts≠[]:=fun e=>by subst e;cases h
theorem Z3M(T:Tk)(hc:T.ts.length<=T.cap)(b:Nat)(ts:List T3)(hts:ts<:+T.ts)(kd:Int)(s:ByteArray):CallL Tryz.prog Z8E [PB T b ts] [T.G] [.is (.pointer (some ⟨b,0,none⟩)),.is (.int .i64 kd),.is (.string s)] (fun _:Unit=>True) (fun _=>[PB T b (skT kd s ts)]) (fun _=>.is (.bool (isT kd s ts))):=
CallL.of (fn:=Tryz.f65) Tryz.func65 (n:=43) rfl rfl rfl (fun _ _=>by kernel_rfl) fun E W hb0=>by
 refine vQ ?_;refine Ja rfl (vS [0,1,2] ?_);refine J.reg0 hmx qK qK ?_;refine yz (Z1 rfl) (yz (Z4 rfl) (yz (Z0 Zq rfl) (yz (Z5 ZC rfl rfl) (yz (ZD ZR rfl) (yz (ZP rfl rfl) (yz (Z1 rfl) (yg rfl rfl rfl (fun hg=>Z1 (.inl rfl)) (yg rfl rfl rfl (fun hg=>Z4 (qR rfl)) ?_))))))));refine yg rfl rfl rfl (fun hg=>Z0 Zq (qR rfl)) ?_;refine yg rfl rfl rfl (fun hg=>Z5 ZC (qR rfl) rfl) ?_;refine yg rfl rfl rfl (fun hg=>Zi Z1f (qR rfl) rfl (.inl rfl) qM (Z2T (Z8b hg))) ?_;refine yg rfl rfl rfl (fun hg=>Z0 Z1i (qR rfl)) ?_;refine yg rfl rfl rfl (fun hg=>Z17 (enc:=T3.cells) (sz:=3) (i:=T.k ts) (j:=0) (y:=ts.headD t3D) (u:=.int .i64 (ts.headD t3D).k) Zx (qR rfl) qI rfl (Tk.head hts (Z8b hg)) (by rw[Tk.j_eq hc hts (Z8b hg)];omega) rfl) ?_;refine yg rfl rfl rfl (fun hg=>Z1 (.inl rfl)) (yg rfl rfl rfl (fun hg=>Z28 (qR rfl) (qR rfl)) ?_);refine yz (Zw rfl rfl rfl id) (yz (Z1 rfl) (yg rfl rfl rfl (fun hg=>Z1 (.inl rfl)) (yg rfl rfl rfl (fun hg=>Z4 (qR rfl)) ?_)));refine yg rfl rfl rfl (fun hg=>Z0 Zq (qR rfl)) ?_;refine yg rfl rfl rfl (fun hg=>Z5 ZC (qR rfl) rfl) ?_;refine yg rfl rfl rfl (fun hg=>Zi Z1f (qR rfl) rfl (.inl rfl) qM (Z2T (Z8b (Zew hg)))) ?_;refine yg rfl rfl rfl (fun hg=>Z0 Z1x (qR rfl)) ?_;refine yg rfl rfl rfl (fun hg=>Z17 (enc:=T3.cells) (sz:=3) (i:=T.k ts) (j:=1) (y:=ts.headD t3D) (u:=.string (ts.headD t3D).t) Zr (qR rfl) qI rfl (Tk.head hts (Z8b (Zew hg))) (by rw[Tk.j_eq hc hts (Z8b (Zew hg))];omega) rfl) ?_;refine yg rfl rfl rfl (fun hg=>Z1 (.inl rfl)) (yg rfl rfl rfl (fun hg=>Z4x (qR rfl) (qR rfl)) ?_);refine yz (Zw rfl rfl rfl id) ?_;apply yn;refine FinS.nil0 ?_;refine vS [0,34] ?_;refine yC rfl (fun ht34=>?_) (fun ht34=>?_);have hT:isT kd s ts=false:=by rw[Zcv]at ht34;simpa using ht34
 rw[show skT kd s ts=ts by unfold skT;rw[hT];rfl];refine vQ ?_;refine Ja rfl (vS [6] ?_);refine vR ?_;exact JX.retL1 rfl () trivial (.refl _) rfl rfl hb0 rfl (Sub.isEq (by rw[hT]));apply yK
 repeat first|apply yX|apply yB
 have hT:isT kd s ts=true:=by rw[Zcv]at ht34;simpa using ht34
 rw[show skT kd s ts=ts.tail by unfold skT;rw[hT];rfl];refine vQ ?_;refine Jm rfl (Jm rfl (Jq (Z4 rfl) (Jq (Z0 Zq rfl) (Jq (Z5 ZC rfl rfl) (Jq (Z6B ZR Z1f rfl rfl qM (by have:=Z2T (ZaG hT);omega)) ?_)))));refine Jq (Z4 rfl) (Jq (Z0 Zq rfl) (JO.m (Z9 (cs':=[_]) rfl rfl qU rfl rfl rfl rfl Z4j) (by rfl) ?_));apply yI
 repeat first|apply yX|apply yB
 refine yL [] .nil (vQ ?_);refine Ja rfl (vS [6] ?_);refine vR ?_;refine JX.retL1 (Lr:=[]) rfl () trivial (.of_eq ?_) rfl rfl hb0 rfl (Sub.isEq (by rw[hT]));exact congrArg (fun v=>[Own.mk b Z2Y (.is (.agg #[v]))]) (Tk.tail hc hts (ZaG hT))
theorem ZE(T:Tk)(hc:T.ts.length<=T.cap)(b:Nat)(ts:List T3)(hts:ts<:+T.ts)(s:ByteArray):CallL Tryz.prog Z8q [PB T b ts] [T.G] [.is (.pointer (some ⟨b,0,none⟩)),.is (.string s)] (fun _:Unit=>True) (fun _=>[PB T b (skT 5 s ts)]) (fun _=>.is (.bool (isT 5 s ts))):=
CallL.of (fn:=Tryz.f27) Tryz.func27 (n:=8) rfl rfl rfl (fun _ _=>by kernel_rfl) fun E W hb0=>by
 refine vQ ?_;refine Ja rfl (vP [0,1] ?_);refine Jm rfl (Jm rfl (JO.callK (Lr:=[]) (Z3M T hc b ts hts 5 s) rfl (.refl _) (Z6S qI) qA ?_));intro z hz;refine Ja rfl (vS [4] ?_);refine vR ?_;exact JX.retL1 rfl () trivial (.refl _) rfl rfl hb0 rfl (Sub.refl _)
theorem Zu(T:Tk)(hc:T.ts.length<=T.cap)(b:Nat)(ts:List T3)(hts:ts<:+T.ts)(s:ByteArray):CallL Tryz.prog Z8y [PB T b ts] [T.G] [.is (.pointer (some ⟨b,0,none⟩)),.is (.string s)] (fun _:Unit=>True) (fun _=>[PB T b (skT 1 s ts)]) (fun _=>.is (.bool (isT 1 s ts))):=
CallL.of (fn:=Tryz.f104) Tryz.func104 (n:=8) rfl rfl rfl (fun _ _=>by kernel_rfl) fun E W hb0=>by
 refine vQ ?_;refine Ja rfl (vP [0,1] ?_);refine Jm rfl (Jm rfl (JO.callK (Lr:=[]) (Z3M T hc b ts hts 1 s) rfl (.refl _) (Z6S qI) qA ?_));intro z hz;refine Ja rfl (vS [4] ?_);refine vR ?_;exact JX.retL1 rfl () trivial (.refl _) rfl rfl hb0 rfl (Sub.refl _)
theorem Zt(pv:Value)(x:Bool):CallP Tryz.prog Z8C [] [] [.is pv,.is (.bool x)] (x=false) flt (fun _:Unit=>x=true) (fun _=>[]) (fun _=>.is (.tuple #[])):=
CallP.of (fn:=Tryz.f28) Tryz.func28 (n:=8) rfl rfl rfl (fun _ _=>by kernel_rfl) fun E W hb0=>by
 refine vQ ?_;refine Jm rfl (Jq (Z22 rfl) (vS [5] ?_));refine yC rfl (fun ht5=>?_) (fun ht5=>?_);refine vQ ?_;refine Jq (Zd (cs:=[]) Z8t .nil rfl rfl) (Jq (Zcc (d:=.struct #[]) qK rfl rfl) ?_);refine JO.pan rfl ?_;exact JX.pnI (by simpa using ht5);apply yK;refine JX.normal_ret ?_;refine JX.toP ?_;exact JX.retL0 rfl () (by simpa using ht5) (Z2a _) rfl hb0 rfl
theorem Z81{k:Int}{ts:List T3}(h:isK k ts=true):ts≠[]:=fun e=>by subst e;cases h
theorem Z6L(k:Int)(ts:List T3):(decide ((0:Int)<((ts.length:Nat):Int))&&((ts.headD t3D).k==k))=isK k ts:=by
 cases ts with
 |nil=>rfl
 |cons t r=>rw[decide_eq_true (show(0:Int)<(((t::r).length:Nat):Int) by simp)];rfl
theorem Zb0(k:Int)(ts:List T3):takeP k ts=if isK k ts then some (ts.headD t3D,ts.tail)else none:=by cases ts<;>rfl
theorem Z3b{ts:List T3}(h:decide ((0:Int)<((ts.length:Nat):Int))=true):ts≠[]:=fun e=>by subst e;cases h
theorem Z2Z(T:Tk)(hc:T.ts.length<=T.cap)(b:Nat)(ts:List T3)(hts:ts<:+T.ts)(kd:Int):CallP Tryz.prog Z89 [PB T b ts] [T.G] [.is (.pointer (some ⟨b,0,none⟩)),.is (.int .i64 kd)] (takeP kd ts=none) flt (fun z:T3×List T3=>takeP kd ts=some z) (fun z=>[PB T b z.2]) (fun z=>.is (tv z.1)):=
CallP.of (fn:=Tryz.f64) Tryz.func64 (n:=40) rfl rfl rfl (fun _ _=>by kernel_rfl) fun E W hb0=>by
 refine vQ ?_;refine JO.alloc Z1q rfl fun b4=>(vS [0,1,4] ?_);refine J.regS 18 hmx qK qK ?_;refine yz (Z1 rfl) (yz (Z1 rfl) (yz (Z4 rfl) (yz (Z0 Zq rfl) (yz (Z5 ZC rfl rfl) (yz (ZD ZR rfl) (yz (Z1r rfl rfl) (yz (Z1 rfl) (yg rfl rfl rfl (fun hg=>Z1 (.inl rfl)) (yg rfl rfl rfl (fun hg=>Z4 (qR rfl)) ?_)))))))));refine yg rfl rfl rfl (fun hg=>Z0 Zq (qR rfl)) ?_;refine yg rfl rfl rfl (fun hg=>Z5 ZC (qR rfl) rfl) ?_;refine yg rfl rfl rfl (fun hg=>Zi Z1f (qR rfl) rfl (.inl rfl) qM (Z2T (Z3b hg))) ?_;refine yg rfl rfl rfl (fun hg=>Z0 Z1i (qR rfl)) ?_;refine yg rfl rfl rfl (fun hg=>Z17 (enc:=T3.cells) (sz:=3) (i:=T.k ts) (j:=0) (y:=ts.headD t3D) (u:=.int .i64 (ts.headD t3D).k) Zx (qR rfl) qI rfl (Tk.head hts (Z3b hg)) (by rw[Tk.j_eq hc hts (Z3b hg)];omega) rfl) ?_;refine yg rfl rfl rfl (fun hg=>Z1 (.inl rfl)) (yg rfl rfl rfl (fun hg=>ZP (qR rfl) (qR rfl)) ?_);refine yz (Zl rfl rfl rfl id) ?_;apply yn;refine FinS.tail0 ?_;refine JO.callPK (Lr:=_) (Zt (.pointer (some ⟨b,0,none⟩)) _) rfl (Z2a _) Z1Z qA (fun hbad=>?_) ?_
 · exact JX.pnI (by rw[Zb0,<-Z6L,hbad];rfl)
 intro z hz;have hK:isK kd ts=true:=by rw[<-Z6L];exact hz
 refine vD ?_;refine vP [0,4] ?_;refine Jm rfl (Jq (Z4 rfl) (Jq (Z0 Zq rfl) (Jq (Z5 ZC rfl rfl) (Jq (Zi Z1f rfl rfl rfl qM (Z2T (Z81 hK))) ?_))));refine Jq (Z3W (enc:=T3.cells) (sz:=3) (i:=T.k ts) (y:=ts.headD t3D) (cs:=T3.cells (ts.headD t3D)) ZM rfl qI rfl (Tk.head hts (Z81 hK)) (by rw[Tk.j_eq hc hts (Z81 hK)];rfl) rfl) ?_;refine JO.alloc Z1q rfl fun b5=>(JO.m (Z2 rfl rfl qU qC qO ZL) (by rfl) ?_);refine vP [0,4,5] ?_;refine Jm rfl (Jm rfl (Jq (Z4 rfl) (Jq (Z0 Zq rfl) (Jq (Z5 ZC rfl rfl) (Jq (Z6B ZR Z1f rfl rfl qM (by have:=Z2T (Z81 hK);omega)) ?_)))));refine Jq (Z4 rfl) (Jq (Z0 Zq rfl) (JO.m (Z9 (cs':=[_]) rfl rfl qU rfl rfl rfl rfl Z4j) (by rfl) ?_));refine vP [4,5] ?_;refine Jq (ZU (cs:=[_,_,_]) ZM rfl rfl rfl) (JO.m (Z2 rfl rfl qU qC qO ZL) (by rfl) ?_);refine vS [4] ?_;refine vR ?_;refine JX.toP ?_;exact JX.retLC (Lr:=[_,_]) rfl (ts.headD t3D,ts.tail) (by rw[Zb0,hK];rfl) (List.Perm.trans (List.perm_append_comm (l₁:=[_,_]) (l₂:=[_])) (.of_eq (congrArg (fun v=>Own.mk b Z2Y (.is (.agg #[v]))::[_,_]) (Tk.tail hc hts (Z81 hK))))) rfl hb0 rfl ZM HasOwn.mem rfl rfl
theorem ZS(T:Tk)(hc:T.ts.length<=T.cap)(b:Nat)(ts:List T3)(hts:ts<:+T.ts):CallP Tryz.prog Z5i [PB T b ts] [T.G] [.is (.pointer (some ⟨b,0,none⟩))] (nameP ts=none) flt (fun z:ByteArray×List T3=>nameP ts=some z) (fun z=>[PB T b z.2]) (fun z=>.is (.string z.1)):=
CallP.of (fn:=Tryz.f105) Tryz.func105 (n:=6) rfl rfl rfl (fun _ _=>by kernel_rfl) fun E W hb0=>by
 refine vQ ?_;refine Ja rfl (vP [0] ?_);refine Jm rfl ?_;refine JO.callPK (Lr:=[]) (Z2Z T hc b ts hts 2) rfl (.refl _) (Z6S qI) qA (fun hbad=>?_) ?_
 · exact JX.pnI (by unfold nameP;rw[hbad];rfl)
 intro z hz;refine vD ?_;refine Jq (Z4l (off:=1) qK rfl rfl) ?_;refine Ja rfl (vS [2] ?_);refine vR ?_;refine JX.toP ?_;exact JX.retL1 rfl (z.1.t,z.2) (by unfold nameP;rw[hz];rfl) (.refl _) rfl rfl hb0 rfl (Sub.refl _)
theorem Sub.leaf{L:List Own}{Φ:List (World->Prop)}{k vk vn:Int}{vs tb nm:ByteArray}{sl:Int}:Sub L Φ (.is (.agg (exCells k vk vn vs tb nm sl none 0 0).toArray)) (.rep (ExR (.mk k vk vn vs tb nm sl []))):=fun E v w hf e=>by
 rw[show v=_ from e];exact fun w' _=>ZcB
theorem Z2R(k:Int)(kids:List Ex):CallTy Tryz.prog ZcO [.is (.int .i64 k),.rep (ExsR kids)] (.rep (ExR (nd k kids))):=
 CallTy.of (fn:=Tryz.f164) Tryz.func164 (n:=8) rfl rfl rfl (fun _ _=>by kernel_rfl) fun E W=>by
 refine J.openExs (s:=1) rfl (fun a len cap b0 o0 hl ha=>?_);refine vQ ?_;refine JO.alloc Z14 rfl fun b4=>(vP [0,1,4] ?_);refine Jm rfl (Jm rfl (Jq (Zd (cs:=[_,_,_,_,_,_,_,_]) Z1a (.cons rfl (.cons rfl .nil)) rfl rfl) (JO.m (Z2 rfl rfl qU qC qO Zc) (by rfl) ?_)));refine vS [4] ?_;refine vR ?_;exact JX.retCsub rfl rfl Z8 HasOwn.mem rfl rfl (Sub.exMk List.mem_cons_self)
theorem Z3z(vk vn:Int)(vs:ByteArray):CallTy Tryz.prog ZaC [.is (.agg #[.int .i64 vk,.int .i64 vn,.string vs])] (.rep (ExR (lit vk vn vs))):=
 CallTy.of (fn:=Tryz.f193) Tryz.func193 (n:=5) rfl rfl rfl (fun _ _=>by kernel_rfl) fun E W=>by
 refine vQ ?_;refine JO.box rfl rfl fun b1=>(JO.alloc Z14 rfl fun b2=>(vP [1,2] ?_));refine Jq (ZU (cs:=[_,_,_]) Z6O rfl rfl rfl) (Jq (Zd (cs:=[_,_,_,_,_,_,_,_]) Z1a (.cons rfl (.cons rfl .nil)) rfl rfl) (JO.m (Z2 rfl rfl qU qC qO Zc) (by rfl) ?_));refine vS [2] ?_;refine vR ?_;exact JX.retCsub rfl rfl Z8 HasOwn.mem rfl rfl Sub.leaf
end Go.Proofs.YtbedigkncjbggaaGreatDoor
