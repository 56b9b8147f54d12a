/- How long a statement's lists may be; cells of its parts. No condition. -/
import Derived.Test.YtbedigkncjbggaaGreatDoorXQ6
import Derived.Test.YtbedigkncjbggaaGreatDoorXQ5
import Derived.Test.YtbedigkncjbggaaGreatDoorXQ1
namespace Go.Pz
open Go Go.Vc
def SmS(s:St):Prop:=s.rows.length<=32/\(∀r∈s.rows,r.length<=16)/\s.items.length<=16/\s.from_.length<=4/\(∀f∈s.from_,f.on.length<=1)/\s.order.length<=16/\s.where_.length<=1/\s.group.length<=16/\s.sets.length<=16/\s.cols.length<=16/\s.names.length<=16
theorem Z5n{α:Type}{most:Nat}{p:Ps α}{ts:List T3}{z:List α×List T3}(h:listP most p ts=some z):z.1.length<=most:=by
 obtain⟨w,h1,h2⟩:=bnd h;obtain⟨y,h3,h4⟩:=bnd h2
 split at h4
 · injection h4 with h4;subst h4;simpa using ‹_›
 · cases h4
theorem Zfp{α:Type}{F:α->Prop}{most:Nat}{p:Ps α}(hp: ∀ts z,p ts=some z->F z.1){ts:List T3}{z:List α×List T3}(h:listP most p ts=some z): ∀x∈z.1,F x:=by
 have key: ∀n ts z,listG p n ts=some z->∀x∈z.1,F x:=by
   intro n
   induction n with
   |zero=>intro ts z h;rw[listG]at h;injection h with h;subst h;intro x hx;cases hx
   |succ n ih=>
     intro ts z h;rw[listG]at h
     split at h
     · obtain⟨w,h1,h2⟩:=bnd h
       obtain⟨y,h3,rfl⟩:=mpd h2;intro x hx;rcases List.mem_cons.1 hx with rfl|hx
       · exact hp _ _ h1
       · exact ih _ _ h3 x hx
     · injection h with h;subst h;intro x hx;cases hx
 obtain⟨w,h1,h2⟩:=bnd h;obtain⟨y,h3,h4⟩:=bnd h2
 split at h4
 · injection h4 with h4;subst h4
   intro x hx;rcases List.mem_cons.1 hx with rfl|hx
   · exact hp _ _ h1
   · exact key _ _ _ h3 x hx
 · cases h4
theorem Z7G{α:Type}{p:Ps α}{ts:List T3}{z:List α×List T3}(h:withinP p ts=some z):z.1.length<=16:=by
 obtain⟨a,h1,h2⟩:=bnd h;obtain⟨l,h3,h4⟩:=bnd h2;obtain⟨v,h5,rfl⟩:=mpd h4;exact Z5n (z:=l) h3
theorem Z8W{e:Ps Ex}{ts:List T3}{z:List Ex×List T3}(h:whereP e ts=some z):z.1.length<=1:=by
 unfold whereP at h
 split at h
 · obtain⟨v,h5,rfl⟩:=mpd h;exact Nat.le_refl _
 · injection h with h;subst h;exact Nat.zero_le _
theorem Zfe{e:Ps Ex}: ∀n ts z,joinsG e n ts=some z->∀s∈z.1,s.on.length<=1:=by
 intro n
 induction n with
 |zero=>intro ts z h;rw[joinsG]at h;injection h with h;subst h;intro x hx;cases hx
 |succ n ih=>
   intro ts z h;rw[joinsG]at h
   split at h
   · obtain⟨w,h1,h2⟩:=bnd h
     obtain⟨y,h3,rfl⟩:=mpd h2;intro v hv;rcases List.mem_cons.1 hv with rfl|hv
     · obtain⟨a,g1,g2⟩:=bnd h1
       obtain⟨s,g3,g4⟩:=bnd g2;obtain⟨b,g5,g6⟩:=bnd g4;obtain⟨x,g7,g8⟩:=mpd g6;subst g8;exact Nat.le_refl _
     · exact ih _ _ h3 v hv
   · injection h with h;subst h;intro x hx;cases hx
theorem ZcD(k:Int):SmS (stK k):=by
 refine⟨Nat.zero_le _,?_,Nat.zero_le _,Nat.zero_le _,?_,Nat.zero_le _,Nat.zero_le _,Nat.zero_le _,Nat.zero_le _,Nat.zero_le _,Nat.zero_le _⟩<;>intro x hx<;>cases hx
theorem Zas{e:Ps Ex}{ts:List T3}{z:St×List T3}(h:stmtP e ts=some z):SmS z.1:=by
 have n0: ∀{α:Type} {p:α->Prop},∀x∈([]:List α),p x:=fun x hx=>by cases hx
 unfold stmtP at h;obtain⟨w,h1,h⟩:=bnd h
 split at h
 · unfold createP at h
   split at h
   · obtain⟨n,_,h⟩:=bnd h
     obtain⟨c,hc,rfl⟩:=mpd h;have:=Z7G hc;exact⟨Nat.zero_le _,n0,Nat.zero_le _,Nat.zero_le _,n0,Nat.zero_le _,Nat.zero_le _,Nat.zero_le _,Nat.zero_le _,this,Nat.zero_le _⟩
   · obtain⟨_,_,h⟩:=bnd h
     obtain⟨_,_,h⟩:=bnd h;obtain⟨_,_,h⟩:=bnd h;obtain⟨_,_,h⟩:=bnd h;obtain⟨_,_,h⟩:=bnd h;obtain⟨_,_,h⟩:=bnd h;obtain⟨_,_,h⟩:=bnd h;have one: ∀x:ByteArray,[x].length<=16:=fun x=>by show 1<=16;omega
     split at h
     · obtain⟨v,_,rfl⟩:=mpd h
       exact⟨Nat.zero_le _,n0,Nat.zero_le _,Nat.zero_le _,n0,Nat.zero_le _,Nat.zero_le _,Nat.zero_le _,Nat.zero_le _,Nat.zero_le _,one _⟩
     · injection h with h;subst h
       exact⟨Nat.zero_le _,n0,Nat.zero_le _,Nat.zero_le _,n0,Nat.zero_le _,Nat.zero_le _,Nat.zero_le _,Nat.zero_le _,Nat.zero_le _,one _⟩
 split at h
 · obtain⟨a,g1,h⟩:=bnd h
   obtain⟨n,g2,h⟩:=bnd h;have rows: ∀tb ns us z,ns.length<=16->insRows e tb ns us=some z->SmS z.1:=fun tb ns us z hn h=>by
     obtain⟨a,k1,h⟩:=bnd h;obtain⟨r,k2,rfl⟩:=mpd h;exact⟨Z5n k2,Zfp (F:=fun r=>r.length<=16) (fun _ _ h=>Z7G h) k2,Nat.zero_le _,Nat.zero_le _,n0,Nat.zero_le _,Nat.zero_le _,Nat.zero_le _,Nat.zero_le _,Nat.zero_le _,hn⟩
   split at h
   · obtain⟨l,g3,h⟩:=bnd h
     exact rows _ _ _ _ (Z7G g3) h
   · exact rows _ _ _ _ (Nat.zero_le _) h
 split at h
 · obtain⟨i,g1,h⟩:=bnd h
   obtain⟨a,g2,h⟩:=bnd h;obtain⟨s,g3,h⟩:=bnd h;obtain⟨j,g4,h⟩:=bnd h
   split at h
   · rename_i hj
     obtain⟨w2,k1,h⟩:=bnd h;obtain⟨g,k2,h⟩:=bnd h;obtain⟨o,k3,h⟩:=bnd h;obtain⟨l,k4,rfl⟩:=mpd h;refine⟨Nat.zero_le _,n0,Z5n g1,?_,?_,?_,Z8W k1,?_,Nat.zero_le _,Nat.zero_le _,Nat.zero_le _⟩
     · show(s.1::j.1).length<=4
       rw[List.length_cons];exact hj
     · intro f hf
       rcases List.mem_cons.1 hf with rfl|hf
       · rw[Zby g3];exact Nat.zero_le _
       · exact Zfe _ _ _ g4 f hf
     · unfold orderP at k3
       split at k3
       · obtain⟨a,q1,q2⟩:=bnd k3
         exact Z5n q2
       · injection k3 with k3;subst k3;exact Nat.zero_le _
     · unfold groupP at k2
       split at k2
       · obtain⟨a,q1,q2⟩:=bnd k2
         exact Z5n q2
       · injection k2 with k2;subst k2;exact Nat.zero_le _
   · cases h
 split at h
 · obtain⟨n,g1,h⟩:=bnd h
   obtain⟨a,g2,h⟩:=bnd h;obtain⟨l,g3,h⟩:=bnd h;obtain⟨w2,g4,rfl⟩:=mpd h;have hl:=Z5n g3;refine⟨Nat.zero_le _,n0,Nat.zero_le _,Nat.zero_le _,n0,Nat.zero_le _,Z8W g4,Nat.zero_le _,?_,Nat.zero_le _,?_⟩
   · show(l.1.map (·.2)).length<=16
     rw[List.length_map];exact hl
   · show(l.1.map (·.1)).length<=16
     rw[List.length_map];exact hl
 split at h
 · obtain⟨a,g1,h⟩:=bnd h
   obtain⟨n,g2,h⟩:=bnd h;obtain⟨w2,g3,rfl⟩:=mpd h;exact⟨Nat.zero_le _,n0,Nat.zero_le _,Nat.zero_le _,n0,Nat.zero_le _,Z8W g3,Nat.zero_le _,Nat.zero_le _,Nat.zero_le _,Nat.zero_le _⟩
 split at h
 · injection h with h;subst h;exact ZcD 7
 split at h
 · injection h with h;subst h;exact ZcD 8
 split at h
 · injection h with h;subst h;exact ZcD 9
 · cases h
theorem Zfm{e:Ps Ex}(hd:Dn e): ∀n us z,joinsG e n us=some z->z.2<:+us:=fun n=>by
 induction n with
 |zero=>intro us z h;rw[joinsG]at h;injection h with h;subst h;exact List.suffix_refl us
 |succ n ih=>
   intro us z h;rw[joinsG]at h
   split at h
   · obtain⟨w,h1,h2⟩:=bnd h
     obtain⟨y,h3,rfl⟩:=mpd h2;exact(ih _ _ h3).trans ((Z64 hd _ _ h1).1.trans (Z2o _ _ _))
   · injection h with h;subst h;exact List.suffix_refl us
theorem ZfZ{e:Ps Ex}(hd:Dn e){ts:List T3}{z:St×List T3}(h:stmtP e ts=some z):z.2<:+ts:=by
 unfold stmtP at h;obtain⟨w,h1,h⟩:=bnd h;have hw:=(Z1c 1 _ _ h1).1;refine List.IsSuffix.trans ?_ hw
 clear h1 hw
 generalize hg:w.2=us at h ⊢
 clear hg
 split at h
 · unfold createP at h
   split at h
   · rename_i ht
     obtain⟨n,g1,h⟩:=bnd h;obtain⟨c,hc,rfl⟩:=mpd h;exact(Z39 Zb8.le _ _ hc).1.trans ((ZV _ _ g1).1.trans (ZG ht).1)
   · obtain⟨_,g1,h⟩:=bnd h
     obtain⟨_,g2,h⟩:=bnd h;obtain⟨_,g3,h⟩:=bnd h;obtain⟨_,g4,h⟩:=bnd h;obtain⟨_,g5,h⟩:=bnd h;obtain⟨_,g6,h⟩:=bnd h;obtain⟨_,g7,h⟩:=bnd h;have hs:=(Zk _ _ _ _ g7).1.trans ((ZV _ _ g6).1.trans ((Zk _ _ _ _ g5).1.trans ((ZV _ _ g4).1.trans ((Zk _ _ _ _ g3).1.trans ((ZV _ _ g2).1.trans (Zk _ _ _ _ g1).1)))))
     split at h
     · rename_i ht
       obtain⟨v,g8,rfl⟩:=mpd h;exact(Zk _ _ _ _ g8).1.trans ((ZG ht).1.trans hs)
     · injection h with h;subst h;exact hs
 split at h
 · obtain⟨a,g1,h⟩:=bnd h
   obtain⟨n,g2,h⟩:=bnd h;have hs:=(ZV _ _ g2).1.trans (Zk _ _ _ _ g1).1;have rows: ∀tb ns us z,insRows e tb ns us=some z->z.2<:+us:=fun tb ns us z h=>by
     obtain⟨a,k1,h⟩:=bnd h;obtain⟨r,k2,rfl⟩:=mpd h;exact(Z3g (Z39 hd.le).le _ _ _ k2).trans (Zk _ _ _ _ k1).1
   split at h
   · obtain⟨l,g3,h⟩:=bnd h
     exact(rows _ _ _ _ h).trans ((Z39 ZV.le _ _ g3).1.trans hs)
   · exact(rows _ _ _ _ h).trans hs
 split at h
 · obtain⟨i,g1,h⟩:=bnd h
   obtain⟨a,g2,h⟩:=bnd h;obtain⟨s,g3,h⟩:=bnd h;obtain⟨j,g4,h⟩:=bnd h;have hs:=(Zfm hd _ _ _ g4).trans ((Z4F _ _ g3).1.trans ((Zk _ _ _ _ g2).1.trans (Z3g (Z5V hd).le _ _ _ g1)))
   split at h
   · obtain⟨w2,k1,h⟩:=bnd h
     obtain⟨g,k2,h⟩:=bnd h;obtain⟨o,k3,h⟩:=bnd h;obtain⟨l,k4,rfl⟩:=mpd h;have m1:=(Z7w hd k1).trans hs;have m2:g.2<:+w2.2:=by
       unfold groupP at k2
       split at k2
       · rename_i ht
         obtain⟨a,q1,q2⟩:=bnd k2;exact(Z3g hd.le _ _ _ q2).trans ((Zk _ _ _ _ q1).1.trans (ZG ht).1)
       · injection k2 with k2;subst k2;exact List.suffix_refl _
     have m3:o.2<:+g.2:=by
       unfold orderP at k3
       split at k3
       · rename_i ht
         obtain⟨a,q1,q2⟩:=bnd k3;exact(Z3g (Z8c hd).le _ _ _ q2).trans ((Zk _ _ _ _ q1).1.trans (ZG ht).1)
       · injection k3 with k3;subst k3;exact List.suffix_refl _
     have m4:l.2<:+o.2:=by
       unfold limitP at k4
       split at k4
       · rename_i ht
         obtain⟨v,q1,rfl⟩:=mpd k4;exact(Z1c 3 _ _ q1).1.trans (ZG ht).1
       · injection k4 with k4;subst k4;exact List.suffix_refl _
     exact m4.trans (m3.trans (m2.trans m1))
   · cases h
 split at h
 · obtain⟨n,g1,h⟩:=bnd h
   obtain⟨a,g2,h⟩:=bnd h;obtain⟨l,g3,h⟩:=bnd h;obtain⟨w2,g4,rfl⟩:=mpd h;exact(Z7w hd g4).trans ((Z3g (Z6I hd).le _ _ _ g3).trans ((Zk _ _ _ _ g2).1.trans (ZV _ _ g1).1))
 split at h
 · obtain⟨a,g1,h⟩:=bnd h
   obtain⟨n,g2,h⟩:=bnd h;obtain⟨w2,g3,rfl⟩:=mpd h;exact(Z7w hd g3).trans ((ZV _ _ g2).1.trans (Zk _ _ _ _ g1).1)
 split at h
 · injection h with h;subst h;exact List.suffix_refl _
 split at h
 · injection h with h;subst h;exact List.suffix_refl _
 split at h
 · injection h with h;subst h;exact List.suffix_refl _
 · cases h
theorem ZgL(p:Cel rwE):p.cs=[hdv p.cs]:=by
 obtain⟨x,cs,h,o⟩:=p
 match cs,h with
 |[a],_=>rfl
theorem ZdU{ps:List (Cel rwE)}{p:Cel rwE}{w:World}(hp:p∈ps)(h:CelF rwE ps w):ExsR p.x (hdv p.cs) w:=by
 obtain⟨v,hv,hR⟩:=h p hp;rw[hv];exact hR
theorem ZfD(p:Cel itE): ∃(u:Value) (q:Cel exE),p.cs=u::q.cs/\q.x=p.x.ex/\ ∀ps w,p∈ps->CelF itE ps w->CelR q w:=by
 obtain⟨x,cs,h,o⟩:=p
 match cs,h,o with
 |u::es,h,o=>
   refine⟨u,⟨x.ex,es,by simpa [itE,exE] using h,fun v hv=>o v (List.mem_cons_of_mem _ hv)⟩,rfl,rfl,fun ps w hp hF=>?_⟩;obtain⟨es',he,hR⟩:=hF _ hp;injection he with he1 he2
   subst he2;exact hR
theorem ZfH(p:Cel kyE): ∃(u:Value) (q:Cel exE),p.cs=q.cs++[u]/\q.x=p.x.ex/\ ∀ps w,p∈ps->CelF kyE ps w->CelR q w:=by
 obtain⟨x,cs,h,o⟩:=p;have h9:cs.length=9:=h;obtain⟨es,u,rfl⟩: ∃es u,cs=es++[u]:=⟨cs.dropLast,cs.getLast (by intro e;rw[e]at h9;cases h9),(List.dropLast_concat_getLast _).symm⟩;refine⟨u,⟨x.ex,es,by show es.length=8;rw[List.length_append,List.length_singleton]at h9;omega,fun v hv=>o v (List.mem_append_left _ hv)⟩,rfl,rfl,fun ps w hp hF=>?_⟩;obtain⟨es',he,hR⟩:=hF _ hp;have:=List.append_inj' he rfl;show ExR x.ex (.agg es.toArray) w;rw[show es=es' from this.1];exact hR
theorem ZfB(p:Cel srE): ∃a b v:Value,p.cs=[a,b,v]/\ ∀ps w,p∈ps->CelF srE ps w->ExsR p.x.on v w:=by
 obtain⟨x,cs,h,o⟩:=p
 match cs,h,o with
 |[a,b,v],h,o=>
   refine⟨a,b,v,rfl,fun ps w hp hF=>?_⟩;obtain⟨v',he,hR⟩:=hF _ hp;injection he with _ he
   injection he with _ he
   injection he with he _
   subst he;exact hR
theorem cs8(q:Cel exE): ∃a b c d e f g h:Value,q.cs=[a,b,c,d,e,f,g,h]:=by
 obtain⟨x,cs,h,o⟩:=q
 match cs,h with
 |[a,b,c,d,e,f,g,h],_=>exact⟨a,b,c,d,e,f,g,h,rfl⟩
section
variable{P:Program}{c:Ctx}{K:List (Nat×Ty)}{L:List Own}{Φ:List (World->Prop)}{Q:Exit->Act->World->Prop}
theorem Zfg{xs:List Ex}{v:Value}{X:Nat->Prop}{w:World}(h:Pers X w (ExsR xs v)): ∃(a:Option Addr) (len cap b o:Nat),v= .slice a len cap/\xs.length=len/\(len≠0->a=some ⟨b,o,none⟩)/\Pers X w (KidsR xs a len):=by
 obtain⟨a,len,cap,rfl,hk⟩:=h.now;have hp:Pers X w (KidsR xs a len):=fun w' hk=>by
   obtain⟨a',len',cap',e,h1⟩:=h w' hk;injection e with e1 e2 e3
   subst e1 e2 e3;exact h1
 by_cases hn:len=0
 · exact⟨a,len,cap,0,0,rfl,hk.1,fun h=>absurd hn h,hp⟩
 · obtain⟨b,o,e,_⟩:=hk.2 hn
   exact⟨a,len,cap,b,o,rfl,hk.1,fun _=>e,hp⟩
theorem J.shapeK{x:Code}{xs:List Ex}{v:Value}(h:ExsR xs v∈Φ)(hj: ∀(a:Option Addr) (len cap b o:Nat),v= .slice a len cap->xs.length=len->(len≠0->a=some ⟨b,o,none⟩)->J P c K L (KidsR xs a len::Φ) x Q):J P c K L Φ x Q:=by
 refine⟨fun X a' w hs=>?_⟩;obtain⟨a,len,cap,b,o,h1,h2,h3,h4⟩:=Zfg (hs.f _ h);refine(hj a len cap b o h1 h2 h3).out X a' w (SA.more hs [_] fun F hF=>?_);rw[List.mem_singleton.1 hF];exact h4
theorem J.openNew{y:Code}{s:Nat}{cs:List Value}{e:TypeId}{n cap:Nat}(h:Go.Vc.look K s=some (.newSl (.cells cs.toArray e (0,0)) n cap))(hj: ∀b,J P c ((s,.is (.slice (some ⟨b,0,none⟩) n cap))::K) L (HeapIs b cs e::Φ) y Q):J P c K L Φ y Q:=by
 refine⟨fun X a w hs=>?_⟩;obtain⟨b,hv,hE,hb⟩:=hs.k s _ h;refine(hj b).out X a w (hs.tell hv [_] fun F hF=>?_);rw[List.mem_singleton.1 hF];exact fun w' hk=>hk.get hb hE
end
def deepX(s:St):List (List Ex):=[s.rows.flatten++s.items.map (·.ex)++(s.from_.map (·.on)).flatten++s.order.map (·.ex),s.where_,s.group,s.sets]
abbrev dvs(a b c d:Value):List Value:=[a,b,c,d]
theorem Z95(s:St):exsOf s=(deepX s).flatten:=by simp[exsOf,deepX]
theorem Zbk{α:Type}{c:Nat}{l:List (List α)}(h: ∀r∈l,r.length<=c):l.flatten.length<=c*l.length:=by
 induction l with
 |nil=>simp
 |cons x xs ih=>
   have h1:=h x List.mem_cons_self;have h2:=ih fun r hr=>h r (List.mem_cons_of_mem _ hr);rw[List.flatten_cons,List.length_append,List.length_cons,Nat.mul_succ];omega
theorem ZbE{s:St}(h:SmS s)(k:Nat):((deepX s).getD k []).length<=1000:=by
 obtain⟨h1,h2,h3,h4,h5,h6,h7,h8,h9,_⟩:=h
 match k with
 |0=>
   show(s.rows.flatten++s.items.map (·.ex)++(s.from_.map (·.on)).flatten++s.order.map (·.ex)).length<=1000;have a1:=Zbk h2;have a2:=Zbk (c:=1) (l:=s.from_.map (·.on)) (by intro r hr;obtain⟨f,hf,rfl⟩:=List.mem_map.1 hr;exact h5 f hf);simp only[List.length_append,List.length_map]at*
   omega
 |1=>exact Nat.le_trans h7 qD
 |2=>exact Nat.le_trans h8 qD
 |3=>exact Nat.le_trans h9 qD
 |k+4=>exact Nat.zero_le _
theorem Zbz{s:St}(h:SmS s):(exsOf s).length<=4096:=by
 rw[Z95];have:=Zbk (c:=1000) (l:=deepX s) (fun r hr=>by
   obtain⟨k,hk,rfl⟩:=List.mem_iff_getElem.1 hr;have:=ZbE h k
   rwa [List.getD_eq_getElem?_getD,List.getElem?_eq_getElem hk]at this)
 have h4:(deepX s).length=4:=rfl
 omega
theorem Z9D{s:St}{k:Nat}{y:Ex}(h:y∈(deepX s).getD k []):y∈exsOf s:=by
 rw[Z95,List.mem_flatten]
 by_cases hk:k<(deepX s).length
 · exact⟨_,List.getElem_mem hk,by rwa [List.getD_eq_getElem?_getD,List.getElem?_eq_getElem hk]at h⟩
 · rw[List.getD_eq_getElem?_getD,List.getElem?_eq_none qM]at h;cases h
theorem Zf5{s:St}{k i:Nat}(h:i<((deepX s).getD k []).length)(hh:32<hgt (((deepX s).getD k []).getD i ex0)):deepS s=true:=by
 refine List.any_eq_true.2 ⟨_,Z9D (k:=k) (y:=((deepX s).getD k []).getD i ex0) ?_,decide_eq_true hh⟩
 generalize (deepX s).getD k []=l at*
 rw[List.getD_eq_getElem?_getD,List.getElem?_eq_getElem h];exact List.getElem_mem h
theorem Zg1{s:St}(h: ∀k,k<4->∀i,i<((deepX s).getD k []).length->¬32<hgt (((deepX s).getD k []).getD i ex0)):deepS s=false:=by
 unfold deepS;rw[List.any_eq_false];intro x hx;rw[Z95,List.mem_flatten]at hx;obtain⟨l,hl,hx⟩:=hx;obtain⟨k,hk,rfl⟩:=List.mem_iff_getElem.1 hl;obtain⟨i,hi,rfl⟩:=List.mem_iff_getElem.1 hx;have e1:(deepX s).getD k []=(deepX s)[k]:=by rw[List.getD_eq_getElem?_getD,List.getElem?_eq_getElem hk];rfl
 have:=h k hk i (by rw[e1];exact hi);rw[e1,List.getD_eq_getElem?_getD,List.getElem?_eq_getElem hi]at this
 simpa using this
end Go.Pz
set_option maxRecDepth 20000
namespace Go.Proofs.YtbedigkncjbggaaGreatDoor
open Go Go.Vc
open Go.Pz
theorem Z3U{α:Type}{xs:List α}{i:Nat}(h:i<xs.length):xs.take (i+1)=xs.take i++[xs[i]]:=by simp
theorem Zb3{a b c d:Value}{k:Nat}(h:k<4):(dvs a b c d)[k]? =some ((dvs a b c d).getD k undef):=by
 rw[List.getD_eq_getElem?_getD,List.getElem?_eq_getElem (by exact h)];rfl
theorem Zcb(N b:Nat)(S0:Pz.St)(vc vn vr vi vf vw vg vo vs:Value)(hsm:SmS S0)(hec: ∀x∈exsOf S0,ect x<=4096):CallL Tryz.prog Zcz [⟨b,Z3,.is (stV S0 vc vn vr vi vf vw vg vo vs)⟩] [SlE rwE noS S0.rows vr,SlE itE noS S0.items vi,SlE srE noS S0.from_ vf,SlE exE (FX N) S0.where_ vw,ExsR S0.group vg,SlE kyE noS S0.order vo,ExsR S0.sets vs] [.is (.pointer (some ⟨b,0,none⟩))] (fun _:Unit=>True) (fun _=>[⟨b,Z3,.is (stV S0 vc vn vr vi vf vw vg vo vs)⟩]) (fun _=>.is (.bool (deepS S0))):=
CallL.of (fn:=Tryz.f29) Tryz.func29 (n:=103) rfl rfl rfl (fun _ _=>by kernel_rfl) fun E W hb0=>by
 have hsm0:=hsm;obtain⟨hb1,hb2,hb3,hb4,hb5,hb6,hb7,hb8,hb9,hb10,hb11⟩:=hsm;refine J.shapeE (xs:=S0.rows) (v:=vr) qI (fun pr ar lr cr br or_ hpr hvr hlr har=>?_);refine J.shapeE (xs:=S0.items) (v:=vi) qI (fun pi ai li ci bi oi hpi hvi hli hai=>?_);refine J.shapeE (xs:=S0.from_) (v:=vf) qI (fun pf af lf cf bf of_ hpf hvf hlf haf=>?_);refine J.shapeE (xs:=S0.order) (v:=vo) qI (fun po ao lo co bo oo hpo hvo hlo hao=>?_);refine J.fact (ExsR S0.where_ vw) (fun X w hF _ w' hk=>SlE.exs (hF (SlE exE (FX N) S0.where_ vw) qI w' hk)) ?_;refine J.shapeK (xs:=S0.where_) (v:=vw) qI (fun aw lw cw bw ow hvw hlw haw=>?_);refine J.shapeK (xs:=S0.group) (v:=vg) qI (fun ag lg cg bg og hvg hlg hag=>?_);refine J.shapeK (xs:=S0.sets) (v:=vs) qI (fun ax lx cx bx ox hvx hlx hax=>?_);subst hvr hvi hvf hvo hvw hvg hvx;have nr:pr.length=S0.rows.length:=by rw[<-hpr,List.length_map]
 have ni:pi.length=S0.items.length:=by rw[<-hpi,List.length_map]
 have nf:pf.length=S0.from_.length:=by rw[<-hpf,List.length_map]
 have no:po.length=S0.order.length:=by rw[<-hpo,List.length_map]
 refine vQ ?_;refine Ja rfl (vP [0] ?_);refine Ja rfl (vP [0,3] ?_);refine Jm rfl (Jq (Z4 rfl) (Jq (Z0 Z1G rfl) (Jq (Z5 Z1D rfl rfl) (Jq (ZD Z1P rfl) (Jm rfl (vS [0,3,19,20,21] ?_))))));apply yk
 repeat apply yQ
 refine J.loopH (α:=List (Cel exE)×Option (Nat×List Value)×Nat×Nat) (fun z=>[(0,.is (.pointer (some ⟨b,0,none⟩))),(3,.is (sliceO z.2.1 z.1.length z.2.2.1)),(19,.is (.slice ar lr cr)),(20,.is (.int .i64 (lr:Nat))),(21,.is (.int .i64 (z.2.2.2:Nat)))]) (fun z=>ownO z.2.1 Z7 [⟨b,Z3,.is (stV S0 vc vn (.slice ar lr cr) (.slice ai li ci) (.slice af lf cf) (.slice aw lw cw) (.slice ag lg cg) (.slice ao lo co) (.slice ax lx cx))⟩]) (fun z=>CelF exE z.1) (fun z=>z.2.2.2<=pr.length/\Grows Cel.cs 8 z.1 z.2.1 z.2.2.1/\z.1.map Cel.x=((pr.take z.2.2.2).map Cel.x).flatten/\z.1.length<=16*z.2.2.2) (fun z=>pr.length-z.2.2.2) ([],none,0,0) [0,3,19,20,21] (.cons rfl (.cons rfl (.cons rfl (.cons rfl (.cons rfl .nil))))) rfl (fun X w hF=>fun w' hk=>CelF.nil w') ⟨Nat.zero_le _,rfl,rfl,Nat.zero_le _⟩ fun⟨qpr,stpr,cappr,i⟩ ⟨hi,hGpr,hmpr,hlpr⟩=>?_;try dsimp only
 try dsimp only at hi
 try dsimp only at hGpr
 try dsimp only at hmpr
 try dsimp only at hlpr
 refine vQ ?_;refine Jq (Z10 rfl rfl) (vS [0,3,19,20,21,22] ?_);refine yC rfl (fun ht22=>?_) (fun ht22=>?_)
 try simp only[yd,yf]at ht22
 apply yK;refine vN ?_;apply yk;refine J.fact (ExsR pr[i].x (hdv pr[i].cs)) (fun X w hF _ w' hk=>ZdU (List.getElem_mem _) (hF (CelF rwE pr) qI w' hk)) ?_;refine J.shapeX (xs:=pr[i].x) (v:=hdv pr[i].cs) qI (fun ps a2 l2 cap0 b2 o2 hps hv2 hl2 ha2=>?_);have hln:ps.length<=16:=by rw[<-List.length_map (f:=Cel.x),hps];exact hb2 _ (by rw[<-hpr];exact List.mem_map_of_mem (List.getElem_mem _))
 refine vQ ?_;refine Jq (Zi Z36 rfl (har qM) rfl qM qM) ?_;refine Jq (Z17 (sz:=1) (j:=0) (enc:=Cel.cs) (u:=hdv pr[i].cs) ZB rfl qI (har qM) (List.getElem?_eq_getElem (by omega:i<pr.length)) qM (by rw[ZgL];rfl)) ?_;refine Ja rfl (vS [0,3,5,19,20,21] ?_);rw[hv2];refine vQ ?_;refine Jm rfl (Jm rfl ?_);refine JO.apA (ps) Z1j Cel.hlen .here hGpr rfl rfl (fun L=>Z65 (a:=a2) (len:=l2) (cap:=cap0) Cel.hlen qD (fun p=>p.o) Zs qI) (by have:=hlpr;(try dsimp only at this);omega) (by have:=hlpr;(try dsimp only at this);omega) rfl (fun st2 cap2 hG2=>?_);refine Ja rfl (vP [0,3,19,20,21] ?_);refine Jq (Zv (cc:=((i+1:Nat):Int)) rfl rfl qM qM qM) ?_;refine Jm rfl ?_;apply yI
 repeat refine JX.normal_block ?_
 refine JX.roundG (x:=(qpr,stpr,cappr,i)) (qpr++ps,st2,cap2,i+1) ?_ ?_ [0,3,19,20,21] ?_ ?_ ?_ ?_
 · exact⟨(by show i+1<=_;omega),hG2,(by show(qpr++ps).map Cel.x=_;rw[List.map_append,hmpr,Z3U qM];simp only[List.map_append,List.map_cons,List.map_nil,List.flatten_append,List.flatten_cons,List.flatten_nil,List.append_nil,List.append_assoc,hps]),(by show(qpr++ps).length<=_;rw[List.length_append];have:=hlpr;have:=hln;(try dsimp only at*);omega)⟩
 · exact(by show pr.length-(i+1)<pr.length-i;omega)
 · exact qS
 · exact qH
 · exact qG
 · exact fun X w hF=>fun w' hk p hp=>(List.mem_append.1 hp).elim (fun hp=>hF (CelF exE qpr) qI w' hk p hp) (fun hp=>hF (CelF exE ps) qI w' hk p hp)
 try simp only[yd,yf]at ht22
 repeat apply yQ
 refine J.exit ?_
 repeat first|refine yH ?_|refine yM rfl ?_|refine yE ?_
 repeat first|apply yX|apply yB
 have hi2:i=pr.length:=by omega
 subst hi2;rw[List.take_length]at hmpr;rw[hpr]at hmpr;refine vQ ?_;refine Jm rfl (Jq (Z4 rfl) (Jq (Z0 Z1y rfl) (Jq (Z5 Z1H rfl rfl) (Jq (ZD Z2i rfl) (Jm rfl (vS [0,3,32,33,34] ?_))))));apply yk
 repeat apply yQ
 refine J.loopH (α:=List (Cel exE)×Option (Nat×List Value)×Nat×Nat) (fun z=>[(0,.is (.pointer (some ⟨b,0,none⟩))),(3,.is (sliceO z.2.1 z.1.length z.2.2.1)),(32,.is (.slice ai li ci)),(33,.is (.int .i64 (li:Nat))),(34,.is (.int .i64 (z.2.2.2:Nat)))]) (fun z=>ownO z.2.1 Z7 [⟨b,Z3,.is (stV S0 vc vn (.slice ar lr cr) (.slice ai li ci) (.slice af lf cf) (.slice aw lw cw) (.slice ag lg cg) (.slice ao lo co) (.slice ax lx cx))⟩]) (fun z=>CelF exE z.1) (fun z=>z.2.2.2<=pi.length/\Grows Cel.cs 8 z.1 z.2.1 z.2.2.1/\z.1.map Cel.x=S0.rows.flatten++(pi.take z.2.2.2).map (·.x.ex)/\z.1.length<=512+z.2.2.2) (fun z=>pi.length-z.2.2.2) (qpr,stpr,cappr,0) [0,3,32,33,34] (.cons rfl (.cons rfl (.cons rfl (.cons rfl (.cons rfl .nil))))) rfl (fun X w hF=>hF _ qI) ⟨Nat.zero_le _,hGpr,(by rw[hmpr];simp),(by show qpr.length<=512+0;have:=hlpr;(try dsimp only at this);omega)⟩ fun⟨qpi,stpi,cappi,i⟩ ⟨hi,hGpi,hmpi,hlpi⟩=>?_;try dsimp only
 try dsimp only at hi
 try dsimp only at hGpi
 try dsimp only at hmpi
 try dsimp only at hlpi
 refine vQ ?_;refine Jq (Z10 rfl rfl) (vS [0,3,32,33,34,35] ?_);refine yC rfl (fun ht35=>?_) (fun ht35=>?_)
 try simp only[yd,yf]at ht35
 apply yK;refine vN ?_;apply yk;obtain⟨u1,q1,hq1,hq2,hq3⟩:=ZfD pi[i];obtain⟨c1,c2,c3,c4,c5,c6,c7,c8,hcs⟩:=cs8 q1;rw[hcs]at hq1;refine J.fact (CelR q1) (fun X w hF _ w' hk=>hq3 pi w' (List.getElem_mem _) (hF (CelF itE pi) qI w' hk)) ?_;refine vQ ?_;refine Jq (Zi Z3N rfl (hai qM) rfl qM qM) ?_;refine Jq (Z3W (sz:=9) (enc:=Cel.cs) (cs:=[u1,c1,c2,c3,c4,c5,c6,c7,c8]) Z4X rfl qI (hai qM) (List.getElem?_eq_getElem (by omega:i<pi.length)) qM hq1) ?_;refine JO.alloc Z7P rfl fun b7=>(JO.m (Z2 rfl rfl qU (by exact Zb rfl rfl) (by exact Zb rfl (List.all_eq_true.2 (by have:=pi[i].o;rw[hq1]at this;exact this))) Z4T) (by rfl) ?_);refine vP [0,3,7,32,33,34] ?_;refine Jm rfl (Jq (Z0 Z9j rfl) (Jq (ZU (cs:=[_,_,_,_,_,_,_,_]) Z8 rfl rfl rfl) (Jq (Z1V (p:=q1) Z3F Zy rfl qD (by rw[show exE.v q1.cs= .agg #[c1,c2,c3,c4,c5,c6,c7,c8] by rw[hcs];rfl];exact rfl)) ?_)));refine JO.apA ([q1]) Z1j Cel.hlen (.there .here) hGpi rfl rfl (srcE q1 Zs) (by have:=hlpi;(try dsimp only at this);(try simp only[List.length_singleton]);omega) (by have:=hlpi;(try dsimp only at this);(try simp only[List.length_singleton]);omega) rfl (fun st2 cap2 hG2=>?_);refine Ja rfl (vP [0,3,32,33,34] ?_);refine Jq (Zv (cc:=((i+1:Nat):Int)) rfl rfl qM qM qM) ?_;refine Jm rfl ?_;apply yI
 repeat refine JX.normal_block ?_
 refine JX.roundG (x:=(qpi,stpi,cappi,i)) (qpi++[q1],st2,cap2,i+1) ?_ ?_ [0,3,32,33,34] ?_ ?_ ?_ ?_
 · exact⟨(by show i+1<=_;omega),hG2,(by show(qpi++[q1]).map Cel.x=_;rw[List.map_append,hmpi,Z3U qM];simp only[List.map_append,List.map_cons,List.map_nil,List.append_assoc,hq2]),(by show(qpi++[q1]).length<=_;rw[List.length_append];have:=hlpi;have:=(show[q1].length<=1 from Nat.le_refl 1);(try dsimp only at*);omega)⟩
 · exact(by show pi.length-(i+1)<pi.length-i;omega)
 · exact qS
 · exact qH
 · exact qG
 · exact fun X w hF=>fun w' hk p hp=>(List.mem_append.1 hp).elim (fun hp=>hF (CelF exE qpi) qI w' hk p hp) (fun hp=>by rw[List.mem_singleton.1 hp];exact hF (CelR q1) qI w' hk)
 try simp only[yd,yf]at ht35
 repeat apply yQ
 refine J.exit ?_
 repeat first|refine yH ?_|refine yM rfl ?_|refine yE ?_
 repeat first|apply yX|apply yB
 have hi2:i=pi.length:=by omega
 subst hi2;rw[List.take_length]at hmpi;refine vQ ?_;refine Jm rfl (Jq (Z4 rfl) (Jq (Z0 Z13 rfl) (Jq (Z5 Z11 rfl rfl) (Jq (ZD Z1N rfl) (Jm rfl (vS [0,3,47,48,49] ?_))))));apply yk
 repeat apply yQ
 refine J.loopH (α:=List (Cel exE)×Option (Nat×List Value)×Nat×Nat) (fun z=>[(0,.is (.pointer (some ⟨b,0,none⟩))),(3,.is (sliceO z.2.1 z.1.length z.2.2.1)),(47,.is (.slice af lf cf)),(48,.is (.int .i64 (lf:Nat))),(49,.is (.int .i64 (z.2.2.2:Nat)))]) (fun z=>ownO z.2.1 Z7 [⟨b,Z3,.is (stV S0 vc vn (.slice ar lr cr) (.slice ai li ci) (.slice af lf cf) (.slice aw lw cw) (.slice ag lg cg) (.slice ao lo co) (.slice ax lx cx))⟩]) (fun z=>CelF exE z.1) (fun z=>z.2.2.2<=pf.length/\Grows Cel.cs 8 z.1 z.2.1 z.2.2.1/\z.1.map Cel.x=S0.rows.flatten++S0.items.map (·.ex)++((pf.take z.2.2.2).map (·.x.on)).flatten/\z.1.length<=528+z.2.2.2) (fun z=>pf.length-z.2.2.2) (qpi,stpi,cappi,0) [0,3,47,48,49] (.cons rfl (.cons rfl (.cons rfl (.cons rfl (.cons rfl .nil))))) rfl (fun X w hF=>hF _ qI) ⟨Nat.zero_le _,hGpi,(by rw[hmpi,<-hpi];first|(simp;done)|(simp;rfl)),(by show qpi.length<=528+0;have:=hlpi;(try dsimp only at this);omega)⟩ fun⟨qpf,stpf,cappf,i⟩ ⟨hi,hGpf,hmpf,hlpf⟩=>?_;try dsimp only
 try dsimp only at hi
 try dsimp only at hGpf
 try dsimp only at hmpf
 try dsimp only at hlpf
 refine vQ ?_;refine Jq (Z10 rfl rfl) (vS [0,3,47,48,49,50] ?_);refine yC rfl (fun ht50=>?_) (fun ht50=>?_)
 try simp only[yd,yf]at ht50
 apply yK;refine vN ?_;apply yk;obtain⟨u1,u2,u3,hq1,hq3⟩:=ZfB pf[i];refine J.fact (ExsR pf[i].x.on u3) (fun X w hF _ w' hk=>hq3 pf w' (List.getElem_mem _) (hF (CelF srE pf) qI w' hk)) ?_;refine J.shapeX (xs:=pf[i].x.on) (v:=u3) qI (fun ps a2 l2 cap0 b2 o2 hps hv2 hl2 ha2=>?_);subst hv2;have hln:ps.length<=1:=by rw[<-List.length_map (f:=Cel.x),hps];exact hb5 _ (by rw[<-hpf];exact List.mem_map_of_mem (List.getElem_mem _))
 refine vQ ?_;refine Jq (Zi Z2b rfl (haf qM) rfl qM qM) ?_;refine Jq (Z3W (sz:=3) (enc:=Cel.cs) (cs:=[u1,u2,.slice a2 l2 cap0]) Z24 rfl qI (haf qM) (List.getElem?_eq_getElem (by omega:i<pf.length)) qM hq1) ?_;refine JO.alloc Z30 rfl fun b9=>(JO.m (Z2 rfl rfl qU (by exact Zb rfl rfl) (by exact Zb rfl (List.all_eq_true.2 (by have:=pf[i].o;rw[hq1]at this;exact this))) Z2q) (by rfl) ?_);refine vP [0,3,9,47,48,49] ?_;refine Jm rfl (Jq (Z0 Z2V rfl) (Jq (Z5 ZB rfl rfl) ?_));refine JO.apA (ps) Z1j Cel.hlen (.there .here) hGpf rfl rfl (fun L=>Z65 (a:=a2) (len:=l2) (cap:=cap0) Cel.hlen qD (fun p=>p.o) Zs qI) (by have:=hlpf;(try dsimp only at this);omega) (by have:=hlpf;(try dsimp only at this);omega) rfl (fun st2 cap2 hG2=>?_);refine Ja rfl (vP [0,3,47,48,49] ?_);refine Jq (Zv (cc:=((i+1:Nat):Int)) rfl rfl qM qM qM) ?_;refine Jm rfl ?_;apply yI
 repeat refine JX.normal_block ?_
 refine JX.roundG (x:=(qpf,stpf,cappf,i)) (qpf++ps,st2,cap2,i+1) ?_ ?_ [0,3,47,48,49] ?_ ?_ ?_ ?_
 · exact⟨(by show i+1<=_;omega),hG2,(by show(qpf++ps).map Cel.x=_;rw[List.map_append,hmpf,Z3U qM];simp only[List.map_append,List.map_cons,List.map_nil,List.flatten_append,List.flatten_cons,List.flatten_nil,List.append_nil,List.append_assoc,hps]),(by show(qpf++ps).length<=_;rw[List.length_append];have:=hlpf;have:=hln;(try dsimp only at*);omega)⟩
 · exact(by show pf.length-(i+1)<pf.length-i;omega)
 · exact qS
 · exact qH
 · exact qG
 · exact fun X w hF=>fun w' hk p hp=>(List.mem_append.1 hp).elim (fun hp=>hF (CelF exE qpf) qI w' hk p hp) (fun hp=>hF (CelF exE ps) qI w' hk p hp)
 try simp only[yd,yf]at ht50
 repeat apply yQ
 refine J.exit ?_
 repeat first|refine yH ?_|refine yM rfl ?_|refine yE ?_
 repeat first|apply yX|apply yB
 have hi2:i=pf.length:=by omega
 subst hi2;rw[List.take_length]at hmpf;refine vQ ?_;refine Jm rfl (Jq (Z4 rfl) (Jq (Z0 Z1F rfl) (Jq (Z5 Z2e rfl rfl) (Jq (ZD Z2I rfl) (Jm rfl (vS [0,3,61,62,63] ?_))))));apply yk
 repeat apply yQ
 refine J.loopH (α:=List (Cel exE)×Option (Nat×List Value)×Nat×Nat) (fun z=>[(0,.is (.pointer (some ⟨b,0,none⟩))),(3,.is (sliceO z.2.1 z.1.length z.2.2.1)),(61,.is (.slice ao lo co)),(62,.is (.int .i64 (lo:Nat))),(63,.is (.int .i64 (z.2.2.2:Nat)))]) (fun z=>ownO z.2.1 Z7 [⟨b,Z3,.is (stV S0 vc vn (.slice ar lr cr) (.slice ai li ci) (.slice af lf cf) (.slice aw lw cw) (.slice ag lg cg) (.slice ao lo co) (.slice ax lx cx))⟩]) (fun z=>CelF exE z.1) (fun z=>z.2.2.2<=po.length/\Grows Cel.cs 8 z.1 z.2.1 z.2.2.1/\z.1.map Cel.x=S0.rows.flatten++S0.items.map (·.ex)++(S0.from_.map (·.on)).flatten++(po.take z.2.2.2).map (·.x.ex)/\z.1.length<=532+z.2.2.2) (fun z=>po.length-z.2.2.2) (qpf,stpf,cappf,0) [0,3,61,62,63] (.cons rfl (.cons rfl (.cons rfl (.cons rfl (.cons rfl .nil))))) rfl (fun X w hF=>hF _ qI) ⟨Nat.zero_le _,hGpf,(by rw[hmpf,<-hpf];first|(simp;done)|(simp;rfl)),(by show qpf.length<=532+0;have:=hlpf;(try dsimp only at this);omega)⟩ fun⟨qpo,stpo,cappo,i⟩ ⟨hi,hGpo,hmpo,hlpo⟩=>?_;try dsimp only
 try dsimp only at hi
 try dsimp only at hGpo
 try dsimp only at hmpo
 try dsimp only at hlpo
 refine vQ ?_;refine Jq (Z10 rfl rfl) (vS [0,3,61,62,63,64] ?_);refine yC rfl (fun ht64=>?_) (fun ht64=>?_)
 try simp only[yd,yf]at ht64
 apply yK;refine vN ?_;apply yk;obtain⟨u1,q1,hq1,hq2,hq3⟩:=ZfH po[i];obtain⟨c1,c2,c3,c4,c5,c6,c7,c8,hcs⟩:=cs8 q1;rw[hcs]at hq1;refine J.fact (CelR q1) (fun X w hF _ w' hk=>hq3 po w' (List.getElem_mem _) (hF (CelF kyE po) qI w' hk)) ?_;refine vQ ?_;refine Jq (Zi Z55 rfl (hao qM) rfl qM qM) ?_;refine Jq (Z3W (sz:=9) (enc:=Cel.cs) (cs:=[c1,c2,c3,c4,c5,c6,c7,c8,u1]) Z3a rfl qI (hao qM) (List.getElem?_eq_getElem (by omega:i<po.length)) qM hq1) ?_;refine JO.alloc Z5u rfl fun b11=>(JO.m (Z2 rfl rfl qU (by exact Zb rfl rfl) (by exact Zb rfl (List.all_eq_true.2 (by have:=po[i].o;rw[hq1]at this;exact this))) Z40) (by rfl) ?_);refine vP [0,3,11,61,62,63] ?_;refine Jm rfl (Jq (Z0 Z9B rfl) (Jq (ZU (cs:=[_,_,_,_,_,_,_,_]) Z8 rfl rfl rfl) (Jq (Z1V (p:=q1) Z3F Zy rfl qD (by rw[show exE.v q1.cs= .agg #[c1,c2,c3,c4,c5,c6,c7,c8] by rw[hcs];rfl];exact rfl)) ?_)));refine JO.apA ([q1]) Z1j Cel.hlen (.there .here) hGpo rfl rfl (srcE q1 Zs) (by have:=hlpo;(try dsimp only at this);(try simp only[List.length_singleton]);omega) (by have:=hlpo;(try dsimp only at this);(try simp only[List.length_singleton]);omega) rfl (fun st2 cap2 hG2=>?_);refine Ja rfl (vP [0,3,61,62,63] ?_);refine Jq (Zv (cc:=((i+1:Nat):Int)) rfl rfl qM qM qM) ?_;refine Jm rfl ?_;apply yI
 repeat refine JX.normal_block ?_
 refine JX.roundG (x:=(qpo,stpo,cappo,i)) (qpo++[q1],st2,cap2,i+1) ?_ ?_ [0,3,61,62,63] ?_ ?_ ?_ ?_
 · exact⟨(by show i+1<=_;omega),hG2,(by show(qpo++[q1]).map Cel.x=_;rw[List.map_append,hmpo,Z3U qM];simp only[List.map_append,List.map_cons,List.map_nil,List.append_assoc,hq2]),(by show(qpo++[q1]).length<=_;rw[List.length_append];have:=hlpo;have:=(show[q1].length<=1 from Nat.le_refl 1);(try dsimp only at*);omega)⟩
 · exact(by show po.length-(i+1)<po.length-i;omega)
 · exact qS
 · exact qH
 · exact qG
 · exact fun X w hF=>fun w' hk p hp=>(List.mem_append.1 hp).elim (fun hp=>hF (CelF exE qpo) qI w' hk p hp) (fun hp=>by rw[List.mem_singleton.1 hp];exact hF (CelR q1) qI w' hk)
 try simp only[yd,yf]at ht64
 repeat apply yQ
 refine J.exit ?_
 repeat first|refine yH ?_|refine yM rfl ?_|refine yE ?_
 repeat first|apply yX|apply yB
 have hi2:i=po.length:=by omega
 subst hi2;rw[List.take_length]at hmpo;rw[hGpo.sl.1];refine J.freezeOMW (N:=0) (e:=Z7) (sz:=8) (Nat.zero_le _) Cel.hlen hGpo .here (fun q hq=>⟨_,List.mem_cons_self,(List.mem_singleton.1 hq).symm⟩) rfl rfl ?_;refine J.fact (ExsR (S0.rows.flatten++S0.items.map (·.ex)++(S0.from_.map (·.on)).flatten++S0.order.map (·.ex)) (.slice (adO stpo) qpo.length (capO stpo cappo))) (fun X w hF _ w' hk=>⟨_,_,_,rfl,by rw[show(S0.rows.flatten++S0.items.map (·.ex)++(S0.from_.map (·.on)).flatten++S0.order.map (·.ex))=qpo.map Cel.x from by rw[hmpo,<-hpo];first|(simp;done)|(simp;rfl)];exact Cel.kids (hF (RowG Cel.cs 8 qpo (adO stpo) qpo.length) qI w' hk) (hF (CelF exE qpo) qI w' hk)⟩) ?_
 repeat apply yQ
 refine J.reg0 hmx qK qK ?_;refine yz (Z1 rfl) (yz (Z1 rfl) (yz (Z4 rfl) (yz (Z0 Z26 rfl) (yz (Z5 ZB rfl rfl) (yz (Z1 rfl) (yz (Z4 rfl) (yz (Z0 Z3w rfl) (yz (Z5 ZB rfl rfl) (yz (Z1 rfl) (yz (Z4 rfl) (yz (Z0 Z3j rfl) ?_)))))))))));refine yz (Z5 ZB rfl rfl) (yz (ZI (cs:=[_,_,_,_]) Z4N qM qM (.cons rfl (.cons rfl (.cons rfl (.cons rfl .nil)))) rfl rfl rfl) ?_);refine yz (Zfi Z1P rfl) (yz (Z1 rfl) ?_);apply yn;refine FinS.nil0 ?_;refine vS [86,87,88] ?_;apply yk
 repeat apply yQ
 refine J.openNew (s:=86) rfl (fun b86=>?_);refine J.loopF (α:=Nat) (fun k=>[(86,.is (.slice (some ⟨b86,0,none⟩) 4 4)),(87,.is (.int .i64 ((4:Nat):Int))),(88,.is (.int .i64 (k:Nat)))]) (fun k=>k<=4/\ ∀j,j<k->∀i,i<((deepX S0).getD j []).length->¬32<hgt (((deepX S0).getD j []).getD i ex0)) (fun k=>4-k) 0 [86,87,88] (.cons rfl (.cons rfl (.cons rfl .nil))) ⟨Nat.zero_le _,fun j hj=>absurd hj (Nat.not_lt_zero _)⟩ fun k ⟨hk,hall⟩=>?_;refine vQ ?_;refine Jq (Z10 rfl rfl) (vS [86,87,88,89] ?_);refine yC rfl (fun ht89=>?_) (fun ht89=>?_)
 try simp only[yd,yf]at ht89
 apply yK;refine vN ?_;apply yk;refine vQ ?_;refine Jq (Zi Z36 rfl rfl rfl qM qM) ?_;refine Jq (Z83 (cs:=(dvs (.slice (adO stpo) qpo.length (capO stpo cappo)) (.slice aw lw cw) (.slice ag lg cg) (.slice ax lx cx))) (u:=(dvs (.slice (adO stpo) qpo.length (capO stpo cappo)) (.slice aw lw cw) (.slice ag lg cg) (.slice ax lx cx)).getD k undef) ZB rfl qI (by first|exact Zb3 (k:=k) qM|(rw[show(0+1*k)=k by omega];exact Zb3 (k:=k) qM)|(rw[Nat.mul_one,Int.toNat_natCast,Nat.zero_add];exact Zb3 (k:=k) qM))) ?_;refine Ja rfl (vS [13,86,87,88] ?_);refine J.shapeK (xs:=((deepX S0).getD k [])) (v:=(dvs (.slice (adO stpo) qpo.length (capO stpo cappo)) (.slice aw lw cw) (.slice ag lg cg) (.slice ax lx cx)).getD k undef) (by
     match k,(show k<4 by omega)with
     |0,_=>exact qI
     |1,_=>exact qI
     |2,_=>exact qI
     |3,_=>exact qI) (fun a l2 cap2 b2 o2 hv hlk ha=>?_)
 have hl3:=ZbE hsm0 k;rw[hv];refine vQ ?_;refine Jm rfl (Jq (ZD Zs rfl) (Jm rfl (vS [86,87,88,92,93,94] ?_)));apply yk
 repeat apply yQ
 refine J.loopF (α:=Nat) (fun i=>[(86,_),(87,_),(88,_),(92,_),(93,_),(94,.is (.int .i64 (i:Nat)))]) (fun i=>i<=l2/\ ∀j,j<i->¬32<hgt (((deepX S0).getD k []).getD j ex0)) (fun i=>l2-i) 0 [86,87,88,92,93,94] (.cons rfl (.cons rfl (.cons rfl (.cons rfl (.cons rfl (.cons rfl .nil)))))) ⟨Nat.zero_le _,fun j hj=>absurd hj (Nat.not_lt_zero _)⟩ fun i ⟨hi,hin⟩=>?_;refine vQ ?_;refine Jq (Z10 rfl rfl) (vS [86,87,88,92,93,94,95] ?_);refine yC rfl (fun ht95=>?_) (fun ht95=>?_)
 try simp only[yd,yf]at ht95
 apply yK;refine vN ?_;apply yk;refine vQ ?_;refine Jq (Zi Z2A rfl (ha qM) rfl qM qM) ?_;refine Jq (Z4C (kid:=((deepX S0).getD k []).getD i ex0) Z8 rfl qI (ha qM) (Z5L qM) qM) ?_;refine JO.alloc Z14 rfl fun b15=>(JO.m (Z2 rfl rfl qU qC qO Zc) (by rfl) ?_);refine vP [15,86,87,88,92,93,94] ?_;refine Jq (Z1J Z8 rfl) (Jq (ZN rfl (Z8i 4096 (((deepX S0).getD k []).getD i ex0) (hec _ (Z9D (Z4p qM))) (hec _ (Z9D (Z4p qM)))) (.one rfl .nil)) ?_);refine Jq (Z1r rfl rfl) (vS [86,87,88,92,93,94,100] ?_);refine yC rfl (fun ht100=>?_) (fun ht100=>?_)
 try simp only[yd,yf]at ht100
 refine vQ ?_;refine Ja rfl (vS [2] ?_);refine vR ?_;exact JX.retL1 (Lr:=[_]) rfl () trivial (.swap _ _ _) rfl rfl hb0 rfl (Sub.isEq (by rw[Zf5 (s:=S0) (k:=k) (i:=i) qM qM]))
 try simp only[yd,yf]at ht100
 apply yK;refine vN ?_;apply yN;refine Jq (Zv (cc:=((i+1:Nat):Int)) rfl rfl qM qM qM) ?_;refine Jm rfl ?_;apply yI
 repeat refine JX.normal_block ?_
 refine JX.roundS (i+1) ?_ ?_ [86,87,88,92,93,94] ?_ ?_ ?_
 · exact⟨by omega,fun j hj=>if h:j=i then by subst h;omega else hin j qM⟩
 · exact qM
 · exact qS
 · exact qB
 · exact qB
 try simp only[yd,yf]at ht95
 repeat apply yQ
 refine J.exit ?_
 repeat first|refine yH ?_|refine yM rfl ?_|refine yE ?_
 refine vN ?_;apply yN;refine Jq (Zv (cc:=((k+1:Nat):Int)) rfl rfl qM qM qM) ?_;refine Jm rfl ?_;apply yI
 repeat refine JX.normal_block ?_
 refine JX.roundS (k+1) ?_ ?_ [86,87,88] ?_ ?_ ?_
 · exact⟨by omega,fun j hj=>if h:j=k then by subst h;intro i2 hi2;exact hin i2 qM else hall j qM⟩
 · exact qM
 · exact qS
 · exact qB
 · exact qB
 try simp only[yd,yf]at ht89
 repeat apply yQ
 refine J.exit ?_
 repeat first|refine yH ?_|refine yM rfl ?_|refine yE ?_
 refine vN ?_;apply yN;refine Ja rfl (vS [2] ?_);refine vR ?_;exact JX.retL1 (Lr:=[]) rfl () trivial (.refl _) rfl rfl hb0 rfl (Sub.isEq (by rw[Zg1 (s:=S0) (fun j hj=>hall j qM)]))
abbrev SameX(x:Ex):Prop:=CallTy Tryz.prog Z73 [.rep (ExR x),.rep (ExR x)] (.is (.bool true))
theorem Sub.exsK{L:List Own}{Φ:List (World->Prop)}{kids:List Ex}{a:Option Addr}{len cap:Nat}(h:KidsR kids a len∈Φ):Sub L Φ (.is (.slice a len cap)) (.rep (ExsR kids)):=fun E v w hf e=>by
 rw[show v=_ from e];exact fun w' hk=>⟨a,len,cap,rfl,hf.2 _ h w' hk⟩
theorem ZbQ:VEq Tryz.prog Zdd Z48 Zd0 ZJ:=⟨by kernel_rfl,by kernel_rfl,by kernel_rfl,by kernel_rfl,by kernel_rfl,by kernel_rfl,by kernel_rfl⟩
theorem Z6x(xs:List Ex)(hl:xs.length<=4096)(hk: ∀x∈xs,SameX x):CallTy Tryz.prog Z6v [.rep (ExsR xs),.rep (ExsR xs)] (.is (.bool true)):=
 CallTy.of (fn:=Tryz.f41) Tryz.func41 (n:=27) rfl rfl rfl (fun _ _=>by kernel_rfl) fun E W=>by
 refine J.openExs (s:=0) rfl (fun a len cap b o hlen ha=>?_);refine J.openExs (s:=1) rfl (fun a2 len2 cap2 b2 o2 hlen2 ha2=>?_);subst hlen hlen2;refine vQ ?_;refine Ja rfl (vP [0,1] ?_);refine Jm rfl (Jq (ZD Zs rfl) (Jm rfl (Jq (ZD Zs rfl) (Jq (Z28 rfl rfl) (vS [0,1,10] ?_)))));refine yC rfl (fun ht10=>?_) (fun ht10=>?_);refine vQ ?_;refine Ja rfl (vS [4] ?_);refine vR ?_;exact JX.ret1is rfl rfl (by exact absurd ht10 (by simp));apply yK;refine vN ?_;apply yN;refine Ja rfl (vS [0,1,5] ?_);apply yk
 repeat apply yQ
 refine J.loopF (α:=Nat) (fun s=>[(0,.is (.slice a xs.length cap)),(1,.is (.slice a2 xs.length cap2)),(5,.is (.int .i64 (s:Nat)))]) (fun s=>s<=xs.length) (fun s=>xs.length-s) 0 [0,1,5] (.cons rfl (.cons rfl (.cons rfl .nil))) (Nat.zero_le _) fun i hi=>?_;refine vQ ?_;refine Jm rfl (Jm rfl (Jq (ZD Zs rfl) (Jq (Z10 rfl rfl) (vS [0,1,5,14] ?_))));refine yC rfl (fun ht14=>?_) (fun ht14=>?_)
 try simp only[yd,yf]at ht14
 apply yK;refine vN ?_;apply yk
 repeat apply yQ
 refine J.reg0 hmx qK qK ?_;refine yz (Z1 rfl) (yz (Z1 rfl) (yz (Zi Z2A rfl (ha qM) rfl qM qM) ?_));refine yz (Z4C (i:=i) (len:=xs.length) (kid:=xs.getD i ex0) Z8 rfl qI (ha qM) (Z5L qM) qM) ?_;refine yz (Z1 rfl) (yz (Z1 rfl) (yz (Zi Z2A rfl (ha2 qM) rfl qM qM) ?_));refine yz (Z4C (i:=i) (len:=xs.length) (kid:=xs.getD i ex0) Z8 rfl qI (ha2 qM) (Z5L qM) qM) ?_;refine yz (ZN rfl (hk _ (Z4p qM)) (.one rfl (.one rfl .nil))) ?_;refine yz (Z22 rfl) ?_;apply yn;refine FinS.nil0 ?_;refine vS [0,1,5,26] ?_;refine yC rfl (fun ht26=>?_) (fun ht26=>?_);refine vQ ?_;refine Ja rfl (vS [4] ?_);refine vR ?_;exact JX.ret1is rfl rfl (by exact absurd ht26 qD);apply yK;refine vN ?_;apply yN;refine Jm rfl (Jq (Zv (cc:=((i+1:Nat):Int)) rfl rfl qM qM qM) ?_);refine Ja rfl ?_;apply yI
 repeat refine JX.normal_block ?_
 refine JX.roundS (i+1) ?_ ?_ [0,1,5] ?_ ?_ ?_
 · exact qM
 · exact qM
 · exact qS
 · exact qB
 · exact qB
 try simp only[yd,yf]at ht14
 repeat apply yQ
 refine J.exit ?_
 repeat first|refine yH ?_|refine yM rfl ?_|refine yE ?_
 refine vN ?_;apply yN;refine Ja rfl (vS [4] ?_);refine vR ?_;exact JX.ret1is rfl rfl (rfl)
theorem Za3(x:Ex)(hS:CallTy Tryz.prog Z6v [.rep (ExsR x.KS),.rep (ExsR x.KS)] (.is (.bool true))):CallTy Tryz.prog Z73 [.rep (ExR x),.rep (ExR x)] (.is (.bool true)):=
 CallTy.of (fn:=Tryz.f17) Tryz.func17 (n:=43) rfl rfl rfl (fun _ _=>by kernel_rfl) fun E W=>by
 refine J.openA (s:=0) rfl (fun a len cap b o hlen ha=>?_);refine J.openA (s:=1) rfl (fun a2 len2 cap2 b2 o2 hlen2 ha2=>?_);refine vQ ?_;refine JO.box rfl rfl fun b2=>(JO.box rfl rfl fun b3=>(Ja rfl (vS [2,3] ?_)));refine J.reg0 hmx qK qK ?_;refine yz (Z0 Z6u rfl) (yz (Z5 Zx rfl rfl) (yz (Z0 Z6u rfl) (yz (Z5 Zx rfl rfl) (yz (Z28 rfl rfl) (yz (Z1 rfl) (yg rfl rfl rfl (fun hg=>Z0 Z9g (.inl rfl)) (yg rfl rfl rfl (fun hg=>ZU (cs:=[_,_,_]) Z6O (qR rfl) rfl rfl) ?_)))))));refine yg rfl rfl rfl (fun hg=>Z0 Z9g (.inl rfl)) (yg rfl rfl rfl (fun hg=>ZU (cs:=[_,_,_]) Z6O (qR rfl) rfl rfl) ?_);refine yg rfl rfl rfl (fun hg=>Zhz ZbQ (qR rfl) (qR rfl)) ?_;refine yz (Zw rfl rfl rfl id) (yz (Z1 rfl) (yg rfl rfl rfl (fun hg=>Z0 Z6t (.inl rfl)) (yg rfl rfl rfl (fun hg=>Z5 Zr (qR rfl) rfl) ?_)));refine yg rfl rfl rfl (fun hg=>Z0 Z6t (.inl rfl)) (yg rfl rfl rfl (fun hg=>Z5 Zr (qR rfl) rfl) ?_);refine yg rfl rfl rfl (fun hg=>Z4x (qR rfl) (qR rfl)) ?_;refine yz (Zw rfl rfl rfl id) (yz (Z1 rfl) (yg rfl rfl rfl (fun hg=>Z0 Z52 (.inl rfl)) (yg rfl rfl rfl (fun hg=>Z5 Zr (qR rfl) rfl) ?_)));refine yg rfl rfl rfl (fun hg=>Z0 Z52 (.inl rfl)) (yg rfl rfl rfl (fun hg=>Z5 Zr (qR rfl) rfl) ?_);refine yg rfl rfl rfl (fun hg=>Z4x (qR rfl) (qR rfl)) ?_;refine yz (Zw rfl rfl rfl id) (yz (Z1 rfl) (yg rfl rfl rfl (fun hg=>Z0 Z9b (.inl rfl)) (yg rfl rfl rfl (fun hg=>Z5 Zx (qR rfl) rfl) ?_)));refine yg rfl rfl rfl (fun hg=>Z0 Z9b (.inl rfl)) (yg rfl rfl rfl (fun hg=>Z5 Zx (qR rfl) rfl) ?_);refine yg rfl rfl rfl (fun hg=>Z28 (qR rfl) (qR rfl)) ?_;refine yz (Zw rfl rfl rfl id) ?_;apply yn;refine FinS.nil0 ?_;refine vS [2,3,37] ?_;refine yC rfl (fun ht37=>?_) (fun ht37=>?_);refine vQ ?_;refine Ja rfl (vS [4] ?_);refine vR ?_;exact JX.ret1is rfl rfl (by exact absurd ht37 (by simp[seq,veq]));apply yK;refine vN ?_;apply yN;refine Jq (Z0 Z3v rfl) (Jq (Z5 ZB rfl rfl) (Jq (Z0 Z3v rfl) (Jq (Z5 ZB rfl rfl) (Jq (ZN rfl (hS) (.sub rfl (Sub.exsK qI) (.sub rfl (Sub.exsK qI) .nil))) ?_))));refine Ja rfl (vS [4] ?_);refine vR ?_;exact JX.ret1is rfl rfl (rfl)
theorem Z75: ∀(n:Nat) (x:Ex),ect x<=n->ect x<=4096->SameX x
 |0,x,h,_=>absurd h (by rw[Z3Q];omega)
 |n+1,x,h,hx=>Za3 x (Z6x x.KS (by have:=Zaw x.KS;rw[Z3Q]at hx;omega) fun y hy=>Z75 n y (by have:=Z5O hy;rw[Z3Q]at h;omega) (by have:=Z5O hy;rw[Z3Q]at hx;omega))
end Go.Proofs.YtbedigkncjbggaaGreatDoor
