/- What is read of tokens as they are cut is well-formed. Plain. No condition. -/
import Derived.Test.YtbedigkncjbggaaGreatDoorXQ1
import Derived.Test.YtbedigkncjbggaaGreatDoorProg
import Derived.Test.YtbedigkncjbggaaGreatDoorXG7
set_option maxRecDepth 20000
namespace Go.Pz
open Go Go.Vc
def tk1 (nk : ByteArray → Prop) (t : T3) : Prop := (t.k = 2 → nk t.t) ∧ (t.k = 3 → 0 ≤ t.n ∧ t.n ≤ 9223372036854775807) ∧ (t.k = 4 → t.t.size ≤ 64)
def tkL (nk : ByteArray → Prop) (ts : List T3) : Prop := ∀ t ∈ ts, tk1 nk t
theorem tkL.suf {nk : ByteArray → Prop} {r ts : List T3} (h : tkL nk ts) (hs : r <:+ ts) : tkL nk r := fun t ht => h t (hs.subset ht)
theorem tkL.tail {nk : ByteArray → Prop} {ts : List T3} (h : tkL nk ts) : tkL nk ts.tail := h.suf (List.tail_suffix ts)
def Yl {α : Type} (nk : ByteArray → Prop) (Q : α → Prop) (p : Ps α) : Prop := ∀ ts z, tkL nk ts → p ts = some z → Q z.1
theorem ZaQ {P : Int → Prop} {k q : Int} : ∀ {ops : List (ByteArray × Int)} {ts : List T3}, (∀ o ∈ ops, P o.2) → opOf k ops ts = some q → P q
 | [], _, _, h => by cases h
 | (s, n) :: l, ts, hp, h => by
   unfold opOf at h
   split at h
   · injection h with h; subst h; exact hp _ List.mem_cons_self
   · exact ZaQ (fun o ho => hp o (List.mem_cons_of_mem _ ho)) h
section
variable {nk : ByteArray → Prop} {e : Ps Ex}
theorem Zcv {part : Ps Ex} {k : Int} {ops : List (ByteArray × Int)} (hd : Dn0 part) (hp : Yl nk (Wf nk) part) (ho : ∀ o ∈ ops, 5 ≤ o.2 ∧ o.2 ≤ 17) : ∀ (n : Nat) (x : Ex) (ts : List T3) (z : Ex × List T3), Wf nk x → tkL nk ts → chainG part k ops n x ts = some z → Wf nk z.1
 | 0, x, ts, z, hx, _, h => by unfold chainG at h; injection h with h; subst h; exact hx
 | n + 1, x, ts, z, hx, ht, h => by
   unfold chainG at h
   split at h
   · injection h with h; subst h; exact hx
   · rename_i q hq
     obtain ⟨y, h1, h2⟩ := bnd h
     have hr := ZaQ (P := fun q => 5 ≤ q ∧ q ≤ 17) ho hq
     exact Zcv hd hp ho n _ _ _ (.bin hr.1 hr.2 hx (hp _ _ ht.tail h1)) (ht.tail.suf (hd _ _ h1)) h2
theorem Z7H {part : Ps Ex} {k : Int} {ops : List (ByteArray × Int)} (hd : Dn0 part) (hp : Yl nk (Wf nk) part) (ho : ∀ o ∈ ops, 5 ≤ o.2 ∧ o.2 ≤ 17) : Yl nk (Wf nk) (chainP part k ops) := fun ts z ht h => by
 obtain ⟨y, h1, h2⟩ := bnd h
 exact Zcv hd hp ho _ _ _ _ (hp _ _ ht h1) (ht.suf (hd _ _ h1)) h2
theorem Zdv {s : ByteArray} {q : Int} (h : aggK s = some q) : 20 ≤ q ∧ q ≤ 23 := by
 unfold aggK at h
 split at h
 · injection h with h; omega
 · split at h
   · injection h with h; omega
   · split at h
     · injection h with h; omega
     · split at h
       · injection h with h; omega
       · cases h
theorem ZkM (he : Yl nk (Wf nk) e) (hd : Dn0 e) : Yl nk (Wf nk) (kwP e) := fun ts z ht h => by
 obtain ⟨y, h1, h2⟩ := bnd h
 have t1 := ht.suf (ZP 1 _ _ h1).1
 split at h2
 · injection h2 with h2; subst h2; exact .tru
 · split at h2
   · injection h2 with h2; subst h2; exact .fls
   · split at h2
     · injection h2 with h2; subst h2; exact .nul
     · split at h2
       · cases h2
       · rename_i q hq
         obtain ⟨u, h4, h5⟩ := bnd h2
         have t2 := t1.suf (Z8 _ _ _ _ h4).1
         split at h5
         · obtain ⟨v, h7, rfl⟩ := mpd h5; exact .cnt
         · obtain ⟨v, h7, h8⟩ := bnd h5
           obtain ⟨v', h9, rfl⟩ := mpd h8
           exact .agg (Zdv hq).1 (Zdv hq).2 (he _ _ t2 h7)
theorem Z1N : Yl nk nk nameP := fun ts z ht h => by
 obtain ⟨y, hy, rfl⟩ := mpd h
 cases ts with
 | nil => cases hy
 | cons t r =>
   rw [takeP] at hy
   split at hy
   · rename_i hk
     injection hy with hy; subst hy
     exact (ht t List.mem_cons_self).1 (by simpa using hk)
   · cases hy
theorem Zdz (he : Yl nk (Wf nk) e) (hd : Dn0 e) : Yl nk (Wf nk) (atomP e) := fun ts z ht h => by
 cases ts with
 | nil => cases h
 | cons t r =>
   have h0 := ht t List.mem_cons_self
   rw [atomP] at h
   split at h
   · rename_i hk
     injection h with h; subst h
     have := h0.2.1 (by simpa using hk)
     exact .num this.1 this.2
   · split at h
     · rename_i hk
       injection h with h; subst h
       exact .txt (h0.2.2 (by simpa using hk))
     · split at h
       · rename_i hk
         have hn := h0.1 (by simpa using hk)
         split at h
         · obtain ⟨v, h7, rfl⟩ := mpd h
           exact .tcol hn (Z1N _ _ (ht.tail.tail) h7)
         · injection h with h; subst h; exact .col hn
       · split at h
         · exact ZkM he hd _ _ ht h
         · obtain ⟨u, h4, h5⟩ := bnd h
           obtain ⟨v, h7, h8⟩ := bnd h5
           obtain ⟨v', h9, rfl⟩ := mpd h8
           have := he _ _ (ht.suf (Z8 _ _ _ _ h4).1) h7
           exact this
theorem Zbu (he : Yl nk (Wf nk) e) (hd : Dn0 e) : ∀ ts z, tkL nk ts → factorP e ts = some z → Wf nk z.1
 | [], z, ht, h => by rw [factorP] at h; exact Zdz he hd _ _ ht h
 | t :: r, z, ht, h => by
   rw [factorP] at h
   split at h
   · obtain ⟨v, h7, rfl⟩ := mpd h
     exact .neg (Zbu he hd r v ht.tail h7)
   · exact Zdz he hd _ _ ht h
theorem ZhV (he : Yl nk (Wf nk) e) (hd : Dn0 e) : Yl nk (Wf nk) (prodP e) := Z7H (Z3Y hd).le (Zbu he hd) qD
theorem Zce (he : Yl nk (Wf nk) e) (hd : Dn0 e) : Yl nk (Wf nk) (sumP e) := Z7H (Z6b hd).le (ZhV he hd) qD
theorem Zfb (he : Yl nk (Wf nk) e) (hd : Dn0 e) {x : Ex} (hx : Wf nk x) : Yl nk (Wf nk) (cmpP e x) := fun ts z ht h => by
 unfold cmpP at h
 split at h
 · rename_i q hq
   obtain ⟨v, h7, rfl⟩ := mpd h
   have hr := ZaQ (P := fun q => 5 ≤ q ∧ q ≤ 17) qD hq
   exact .bin hr.1 hr.2 hx (Zce he hd _ _ ht.tail h7)
 · split at h
   · split at h
     · obtain ⟨v, h7, rfl⟩ := mpd h; exact .iss hx
     · obtain ⟨v, h7, rfl⟩ := mpd h; exact .isn hx
   · injection h with h; subst h; exact hx
theorem ZeW (he : Yl nk (Wf nk) e) (hd : Dn0 e) : ∀ ts z, tkL nk ts → notP e ts = some z → Wf nk z.1
 | [], z, ht, h => by
   rw [notP] at h
   obtain ⟨y, h1, h2⟩ := bnd h
   exact Zfb he hd (Zce he hd _ _ ht h1) _ _ (ht.suf (Z2z hd _ _ h1).1) h2
 | t :: r, z, ht, h => by
   rw [notP] at h
   split at h
   · obtain ⟨v, h7, rfl⟩ := mpd h
     exact .not (ZeW he hd r v ht.tail h7)
   · obtain ⟨y, h1, h2⟩ := bnd h
     exact Zfb he hd (Zce he hd _ _ ht h1) _ _ (ht.suf (Z2z hd _ _ h1).1) h2
theorem Zl2 (he : Yl nk (Wf nk) e) (hd : Dn0 e) : Yl nk (Wf nk) (orP e) := Z7H (Z6T hd).le (Z7H (Z6g hd).le (ZeW he hd) qD) qD
theorem ZdQ : ∀ n, Yl nk (Wf nk) (exprP n)
 | 0, ts, z, _, h => by cases h
 | n + 1, ts, z, ht, h => Zl2 (ZdQ n) (Z2l n).le ts z ht h
def wfL {α : Type} (m : Nat) (Q : α → Prop) (l : List α) : Prop := 1 ≤ l.length ∧ l.length ≤ m ∧ ∀ x ∈ l, Q x
theorem Zdr {α : Type} {part : Ps α} {Q : α → Prop} (hd : Dn0 part) (hp : Yl nk Q part) : ∀ (n : Nat) (ts : List T3) (z : List α × List T3), tkL nk ts → listG part n ts = some z → ∀ x ∈ z.1, Q x
 | 0, ts, z, _, h => by unfold listG at h; injection h with h; subst h; intro x hx; cases hx
 | n + 1, ts, z, ht, h => by
   unfold listG at h
   split at h
   · obtain ⟨y, h1, h2⟩ := bnd h
     obtain ⟨v, h3, rfl⟩ := mpd h2
     intro x hx
     rcases List.mem_cons.1 hx with rfl | hx
     · exact hp _ _ ht.tail h1
     · exact Zdr hd hp n _ _ (ht.tail.suf (hd _ _ h1)) h3 x hx
   · injection h with h; subst h; intro x hx; cases hx
theorem Z5Y {α : Type} {part : Ps α} {Q : α → Prop} (hd : Dn0 part) (hp : Yl nk Q part) (m : Nat) : Yl nk (wfL m Q) (listP m part) := fun ts z ht h => by
 obtain ⟨y, h1, h2⟩ := bnd h
 obtain ⟨v, h3, h4⟩ := bnd h2
 split at h4
 · rename_i hm
   injection h4 with h4; subst h4
   refine ⟨by simp, by simpa using hm, fun x hx => ?_⟩
   rcases List.mem_cons.1 hx with rfl | hx
   · exact hp _ _ ht h1
   · exact Zdr hd hp _ _ _ (ht.suf (hd _ _ h1)) h3 x hx
 · cases h4
theorem Z8J {α : Type} {part : Ps α} {Q : α → Prop} (hd : Dn0 part) (hp : Yl nk Q part) : Yl nk (wfL 16 Q) (withinP part) := fun ts z ht h => by
 obtain ⟨y, h1, h2⟩ := bnd h
 obtain ⟨v, h3, h4⟩ := bnd h2
 obtain ⟨u, h5, rfl⟩ := mpd h4
 have := Z5Y hd hp 16 _ _ (ht.suf (Z8 _ _ _ _ h1).1) h3
 exact this
def wfCol (nk : ByteArray → Prop) (c : Col) : Prop := nk c.nm ∧ 1 ≤ c.ty ∧ c.ty ≤ 3
def wfSrc (nk : ByteArray → Prop) (s : Src) : Prop := nk s.tb ∧ nk s.nm
def wfItm (nk : ByteArray → Prop) (i : Itm) : Prop := (i.all = true ∧ i.ex = ex0) ∨ (i.all = false ∧ Wf nk i.ex)
def wfKy (nk : ByteArray → Prop) (k : Ky) : Prop := Wf nk k.ex
def wfWh (nk : ByteArray → Prop) (l : List Ex) : Prop := l = [] ∨ ∃ x, l = [x] ∧ Wf nk x
def wfOn (nk : ByteArray → Prop) (s : Src) : Prop := wfSrc nk s ∧ ∃ x, s.on = [x] ∧ Wf nk x
inductive WfS (nk : ByteArray → Prop) : St → Prop
 | tab {tb : ByteArray} {cols : List Col} (h : nk tb) (hc : wfL 16 (wfCol nk) cols) : WfS nk { stK 1 with tb := tb, cols := cols }
 | idx {nm tb m : ByteArray} {hash : Bool} (h1 : nk nm) (h2 : nk tb) (h3 : nk m) : WfS nk { stK 2 with nm := nm, tb := tb, names := [m], hash := hash }
 | ins {tb : ByteArray} {names : List ByteArray} {rows : List (List Ex)} (h : nk tb) (hn : names = [] ∨ wfL 16 nk names) (hr : wfL 32 (wfL 16 (Wf nk)) rows) : WfS nk { stK 3 with tb := tb, names := names, rows := rows }
 | sel {items : List Itm} {s : Src} {js : List Src} {wh gr : List Ex} {od : List Ky} {lim : Int} (hi : wfL 16 (wfItm nk) items) (hs : wfSrc nk s) (hs0 : s.on = []) (hj : ∀ j ∈ js, wfOn nk j) (hj3 : js.length + 1 ≤ 4) (hw : wfWh nk wh) (hg : gr = [] ∨ wfL 16 (Wf nk) gr) (ho : od = [] ∨ wfL 16 (wfKy nk) od) (hl : lim = -1 ∨ (0 ≤ lim ∧ lim ≤ 9223372036854775807)) : WfS nk { stK 4 with items := items, from_ := s :: js, where_ := wh, group := gr, order := od, limit := lim }
 | upd {tb : ByteArray} {l : List (ByteArray × Ex)} {wh : List Ex} (h : nk tb) (hl : wfL 16 (fun p : ByteArray × Ex => nk p.1 ∧ Wf nk p.2) l) (hw : wfWh nk wh) : WfS nk { stK 5 with tb := tb, names := l.map (·.1), sets := l.map (·.2), where_ := wh }
 | del {tb : ByteArray} {wh : List Ex} (h : nk tb) (hw : wfWh nk wh) : WfS nk { stK 6 with tb := tb, where_ := wh }
 | pl {k : Int} (h : k = 7 ∨ k = 8 ∨ k = 9) : WfS nk (stK k)
theorem Zhg {ts : List T3} {z : Int × List T3} (h : typeP ts = some z) : 1 ≤ z.1 ∧ z.1 ≤ 3 := by
 unfold typeP at h
 split at h
 · injection h with h; subst h; exact ⟨by show (_ : Int) ≤ _; omega, by show (_ : Int) ≤ _; omega⟩
 · split at h
   · injection h with h; subst h; exact ⟨by show (_ : Int) ≤ _; omega, by show (_ : Int) ≤ _; omega⟩
   · split at h
     · injection h with h; subst h; exact ⟨by show (_ : Int) ≤ _; omega, by show (_ : Int) ≤ _; omega⟩
     · cases h
theorem ZcD {n : ByteArray} {t : Int} {nn : Bool} {ts : List T3} {z : Col × List T3} (h : colEnd n t nn ts = some z) : z.1.nm = n ∧ z.1.ty = t := by
 unfold colEnd at h
 split at h
 · obtain ⟨v, _, rfl⟩ := mpd h; exact ⟨rfl, rfl⟩
 · injection h with h; subst h; exact ⟨rfl, rfl⟩
theorem Zji : Yl nk (wfCol nk) colP := fun ts z ht h => by
 obtain ⟨n, h1, h2⟩ := bnd h
 obtain ⟨t, h3, h4⟩ := bnd h2
 have hn := Z1N _ _ ht h1
 have hr := Zhg h3
 split at h4
 · obtain ⟨v, _, h6⟩ := bnd h4
   obtain ⟨a, b⟩ := ZcD h6
   exact ⟨a ▸ hn, b ▸ hr.1, b ▸ hr.2⟩
 · obtain ⟨a, b⟩ := ZcD h4
   exact ⟨a ▸ hn, b ▸ hr.1, b ▸ hr.2⟩
theorem ZfO : Yl nk (WfS nk) createP := fun ts z ht h => by
 unfold createP at h
 split at h
 · obtain ⟨n, h1, h2⟩ := bnd h
   obtain ⟨c, h3, rfl⟩ := mpd h2
   exact .tab (Z1N _ _ ht.tail h1) (Z8J ZbR.le Zji _ _ (ht.tail.suf (Zw _ _ h1).1) h3)
 · obtain ⟨a, h1, h2⟩ := bnd h
   have t1 := ht.suf (Z8 _ _ _ _ h1).1
   obtain ⟨n, h3, h4⟩ := bnd h2
   have t2 := t1.suf (Zw _ _ h3).1
   obtain ⟨b, h5, h6⟩ := bnd h4
   have t3 := t2.suf (Z8 _ _ _ _ h5).1
   obtain ⟨t, h7, h8⟩ := bnd h6
   have t4 := t3.suf (Zw _ _ h7).1
   obtain ⟨c, h9, h10⟩ := bnd h8
   have t5 := t4.suf (Z8 _ _ _ _ h9).1
   obtain ⟨m, h11, h12⟩ := bnd h10
   obtain ⟨d, h13, h14⟩ := bnd h12
   split at h14
   · obtain ⟨v, _, rfl⟩ := mpd h14; exact .idx (Z1N _ _ t1 h3) (Z1N _ _ t3 h7) (Z1N _ _ t5 h11)
   · injection h14 with h14; subst h14; exact .idx (Z1N _ _ t1 h3) (Z1N _ _ t3 h7) (Z1N _ _ t5 h11)
variable (he : Yl nk (Wf nk) e) (hd : Dn e)
include he hd
theorem Zbe {tb : ByteArray} {ns : List ByteArray} (h1 : nk tb) (h2 : ns = [] ∨ wfL 16 nk ns) : Yl nk (WfS nk) (insRows e tb ns) := fun ts z ht h => by
 obtain ⟨a, h3, h4⟩ := bnd h
 obtain ⟨r, h5, rfl⟩ := mpd h4
 exact .ins h1 h2 (Z5Y (Z2a hd.le).le (Z8J hd.le he) 32 _ _ (ht.suf (Z8 _ _ _ _ h3).1) h5)
theorem ZfJ : Yl nk (WfS nk) (insertP e) := fun ts z ht h => by
 obtain ⟨a, h1, h2⟩ := bnd h
 have t1 := ht.suf (Z8 _ _ _ _ h1).1
 obtain ⟨n, h3, h4⟩ := bnd h2
 have t2 := t1.suf (Zw _ _ h3).1
 split at h4
 · obtain ⟨l, h5, h6⟩ := bnd h4
   exact Zbe he hd (Z1N _ _ t1 h3) (.inr (Z8J Zw.le Z1N _ _ t2 h5)) _ _ (t2.suf (Z2a Zw.le _ _ h5).1) h6
 · exact Zbe he hd (Z1N _ _ t1 h3) (.inl rfl) _ _ t2 h4
omit hd in
theorem Zik : Yl nk (wfItm nk) (itemP e) := fun ts z ht h => by
 unfold itemP at h
 split at h
 · injection h with h; subst h; exact .inl ⟨rfl, rfl⟩
 · obtain ⟨y, h1, rfl⟩ := mpd h; exact .inr ⟨rfl, he _ _ ht h1⟩
omit he hd in
theorem Zbx : ∀ ts z, tkL nk ts → sourceP ts = some z → wfSrc nk z.1 ∧ z.1.on = [] := fun ts z ht h => by
 obtain ⟨n, h1, h2⟩ := bnd h
 have hn := Z1N _ _ ht h1
 have t1 := ht.suf (Zw _ _ h1).1
 split at h2
 · obtain ⟨m, h3, rfl⟩ := mpd h2; exact ⟨⟨hn, Z1N _ _ t1.tail h3⟩, rfl⟩
 · split at h2
   · obtain ⟨m, h3, rfl⟩ := mpd h2; exact ⟨⟨hn, Z1N _ _ t1 h3⟩, rfl⟩
   · injection h2 with h2; subst h2; exact ⟨⟨hn, hn⟩, rfl⟩
omit hd in
theorem Zk4 : Yl nk (wfKy nk) (keyP e) := fun ts z ht h => by
 obtain ⟨y, h1, rfl⟩ := mpd h
 have := he _ _ ht h1
 refine (show Wf nk (if isT 1 Z7C y.2 = true then ((⟨y.1, false⟩ : Ky), y.2.tail) else (⟨y.1, isT 1 Z4C y.2⟩, skT 1 Z4C y.2)).1.ex from ?_)
 split <;> exact this
omit hd in
theorem Za1 : Yl nk (wfWh nk) (whereP e) := fun ts z ht h => by
 unfold whereP at h
 split at h
 · obtain ⟨y, h1, rfl⟩ := mpd h; exact .inr ⟨_, rfl, he _ _ ht.tail h1⟩
 · injection h with h; subst h; exact .inl rfl
omit hd in
theorem Zir : Yl nk (wfOn nk) (joinP e) := fun ts z ht h => by
 obtain ⟨a, h1, h2⟩ := bnd h
 have t1 := ht.suf (Z8 _ _ _ _ h1).1
 obtain ⟨s, h3, h4⟩ := bnd h2
 have t2 := t1.suf (Z2E _ _ h3).1
 obtain ⟨b, h5, h6⟩ := bnd h4
 have t3 := t2.suf (Z8 _ _ _ _ h5).1
 obtain ⟨x, h7, rfl⟩ := mpd h6
 exact ⟨(Zbx _ _ t1 h3).1, _, rfl, he _ _ t3 h7⟩
theorem Zcz : ∀ (n : Nat) (ts : List T3) (z : List Src × List T3), tkL nk ts → joinsG e n ts = some z → ∀ x ∈ z.1, wfOn nk x
 | 0, ts, z, _, h => by unfold joinsG at h; injection h with h; subst h; intro x hx; cases hx
 | n + 1, ts, z, ht, h => by
   unfold joinsG at h
   split at h
   · obtain ⟨y, h1, h2⟩ := bnd h
     obtain ⟨v, h3, rfl⟩ := mpd h2
     have t1 := ht.suf (Z3c 1 ZS ts)
     intro x hx
     rcases List.mem_cons.1 hx with rfl | hx
     · exact Zir he _ _ t1 h1
     · exact Zcz n _ _ (t1.suf (Z4u hd _ _ h1).1) h3 x hx
   · injection h with h; subst h; intro x hx; cases hx
theorem Zgw : Yl nk (fun l => l = [] ∨ wfL 16 (Wf nk) l) (groupP e) := fun ts z ht h => by
 unfold groupP at h
 split at h
 · obtain ⟨a, h1, h2⟩ := bnd h
   exact .inr (Z5Y hd.le he 16 _ _ (ht.tail.suf (Z8 _ _ _ _ h1).1) h2)
 · injection h with h; subst h; exact .inl rfl
theorem Zhl : Yl nk (fun l => l = [] ∨ wfL 16 (wfKy nk) l) (orderP e) := fun ts z ht h => by
 unfold orderP at h
 split at h
 · obtain ⟨a, h1, h2⟩ := bnd h
   exact .inr (Z5Y (Z4I hd).le (Zk4 he) 16 _ _ (ht.tail.suf (Z8 _ _ _ _ h1).1) h2)
 · injection h with h; subst h; exact .inl rfl
omit he hd in
theorem Zgn : Yl nk (fun n => n = -1 ∨ (0 ≤ n ∧ n ≤ 9223372036854775807)) limitP := fun ts z ht h => by
 unfold limitP at h
 split at h
 · obtain ⟨y, h1, rfl⟩ := mpd h
   cases hts : ts.tail with
   | nil => rw [hts] at h1; cases h1
   | cons t r =>
     rw [hts, takeP] at h1
     split at h1
     · rename_i hk
       injection h1 with h1; subst h1
       exact .inr ((ht.tail t (by rw [hts]; exact List.mem_cons_self)).2.1 (by simpa using hk))
     · cases h1
 · injection h with h; subst h; exact .inl rfl
end
section
variable {e : Ps Ex} (hd : Dn e)
include hd
theorem Zbl : Dn0 (whereP e) := fun ts z h => by
 unfold whereP at h
 split at h
 · obtain ⟨y, h1, rfl⟩ := mpd h; exact (hd _ _ h1).1.trans (List.tail_suffix ts)
 · injection h with h; subst h; exact List.suffix_refl ts
theorem ZbE : Dn0 (groupP e) := fun ts z h => by
 unfold groupP at h
 split at h
 · obtain ⟨a, h1, h2⟩ := bnd h
   exact ((Z3a hd 16 _ _ h2).1.trans (Z8 _ _ _ _ h1).1).trans (List.tail_suffix ts)
 · injection h with h; subst h; exact List.suffix_refl ts
theorem ZfD : Dn0 (orderP e) := fun ts z h => by
 unfold orderP at h
 split at h
 · obtain ⟨a, h1, h2⟩ := bnd h
   exact ((Z3a (Z4I hd) 16 _ _ h2).1.trans (Z8 _ _ _ _ h1).1).trans (List.tail_suffix ts)
 · injection h with h; subst h; exact List.suffix_refl ts
theorem Z9z : ∀ n, Dn0 (joinsG e n)
 | 0, ts, z, h => by unfold joinsG at h; injection h with h; subst h; exact List.suffix_refl ts
 | n + 1, ts, z, h => by
   unfold joinsG at h
   split at h
   · obtain ⟨y, h1, h2⟩ := bnd h
     obtain ⟨v, h3, rfl⟩ := mpd h2
     exact ((Z9z n _ _ h3).trans (Z4u hd _ _ h1).1).trans (Z3c _ _ _)
   · injection h with h; subst h; exact List.suffix_refl ts
end
section
variable {nk : ByteArray → Prop} {e : Ps Ex} (he : Yl nk (Wf nk) e) (hd : Dn e)
include he hd
theorem ZhC : Yl nk (WfS nk) (queryP e) := fun ts z ht h => by
 obtain ⟨i, h1, h2⟩ := bnd h
 have t1 := ht.suf (Z3a (Z3X hd) 16 _ _ h1).1
 obtain ⟨a, h3, h4⟩ := bnd h2
 have t2 := t1.suf (Z8 _ _ _ _ h3).1
 obtain ⟨s, h5, h6⟩ := bnd h4
 have t3 := t2.suf (Z2E _ _ h5).1
 obtain ⟨j, h7, h8⟩ := bnd h6
 have t4 := t3.suf (Z9z hd _ _ _ h7)
 split at h8
 · rename_i hj
   obtain ⟨w, h9, h10⟩ := bnd h8
   have t5 := t4.suf (Zbl hd _ _ h9)
   obtain ⟨g, h11, h12⟩ := bnd h10
   have t6 := t5.suf (ZbE hd _ _ h11)
   obtain ⟨o, h13, h14⟩ := bnd h12
   have t7 := t6.suf (ZfD hd _ _ h13)
   obtain ⟨l, h15, rfl⟩ := mpd h14
   have hs := Zbx _ _ t2 h5
   exact .sel (Z5Y (Z3X hd).le (Zik he) 16 _ _ ht h1) hs.1 hs.2 (Zcz he hd _ _ _ t3 h7) hj (Za1 he _ _ t4 h9) (Zgw he hd _ _ t5 h11) (Zhl he hd _ _ t6 h13) (Zgn _ _ t7 h15)
 · cases h8
omit hd in
theorem ZiU : Yl nk (fun p : ByteArray × Ex => nk p.1 ∧ Wf nk p.2) (setP e) := fun ts z ht h => by
 obtain ⟨n, h1, h2⟩ := bnd h
 have t1 := ht.suf (Zw _ _ h1).1
 obtain ⟨a, h3, h4⟩ := bnd h2
 have t2 := t1.suf (Z8 _ _ _ _ h3).1
 obtain ⟨x, h5, rfl⟩ := mpd h4
 exact ⟨Z1N _ _ ht h1, he _ _ t2 h5⟩
theorem ZfT : Yl nk (WfS nk) (updateP e) := fun ts z ht h => by
 obtain ⟨n, h1, h2⟩ := bnd h
 have t1 := ht.suf (Zw _ _ h1).1
 obtain ⟨a, h3, h4⟩ := bnd h2
 have t2 := t1.suf (Z8 _ _ _ _ h3).1
 obtain ⟨l, h5, h6⟩ := bnd h4
 have t3 := t2.suf (Z3a (Z4F hd) 16 _ _ h5).1
 obtain ⟨w, h7, rfl⟩ := mpd h6
 exact .upd (Z1N _ _ ht h1) (Z5Y (Z4F hd).le (ZiU he) 16 _ _ t2 h5) (Za1 he _ _ t3 h7)
omit hd in
theorem ZfZ : Yl nk (WfS nk) (removeP e) := fun ts z ht h => by
 obtain ⟨a, h1, h2⟩ := bnd h
 have t1 := ht.suf (Z8 _ _ _ _ h1).1
 obtain ⟨n, h3, h4⟩ := bnd h2
 have t2 := t1.suf (Zw _ _ h3).1
 obtain ⟨w, h5, rfl⟩ := mpd h4
 exact .del (Z1N _ _ t1 h3) (Za1 he _ _ t2 h5)
theorem Zil : Yl nk (WfS nk) (stmtP e) := fun ts z ht h => by
 obtain ⟨w, h1, h2⟩ := bnd h
 have t1 := ht.suf (ZP 1 _ _ h1).1
 split at h2
 · exact ZfO _ _ t1 h2
 · split at h2
   · exact ZfJ he hd _ _ t1 h2
   · split at h2
     · exact ZhC he hd _ _ t1 h2
     · split at h2
       · exact ZfT he hd _ _ t1 h2
       · split at h2
         · exact ZfZ he _ _ t1 h2
         · split at h2
           · injection h2 with h2; subst h2; exact .pl (.inl rfl)
           · split at h2
             · injection h2 with h2; subst h2; exact .pl (.inr (.inl rfl))
             · split at h2
               · injection h2 with h2; subst h2; exact .pl (.inr (.inr rfl))
               · cases h2
end
end Go.Pz
set_option maxRecDepth 20000
namespace Go.Pz
open Go Go.Vc
section
variable {e e' : Ps Ex} {N : Nat}
theorem Zcl {α : Type} {p p' : Ps α} (hd : Dn0 p) (h : ∀ ts, ts.length < N → p ts = p' ts) : ∀ (n : Nat) (ts : List T3), ts.length ≤ N → listG p n ts = listG p' n ts
 | 0, _, _ => rfl
 | n + 1, ts, hl => by
   unfold listG
   split
   · rename_i hi
     have h1 := (Zz hi).2
     rw [← h ts.tail qM]
     refine Zn fun y hy => ?_
     rw [Zcl hd h n y.2 (by have := (hd _ _ hy).length_le; omega)]
   · rfl
theorem Z5y {α : Type} {p p' : Ps α} (hd : Dn0 p) (h : ∀ ts, ts.length < N → p ts = p' ts) (m : Nat) (ts : List T3) (hl : ts.length < N) : listP m p ts = listP m p' ts := by
 unfold listP
 rw [← h ts hl]
 refine Zn fun y hy => ?_
 rw [Zcl hd h _ _ (by have := (hd _ _ hy).length_le; omega)]
theorem Zem {α : Type} {p p' : Ps α} (hd : Dn0 p) (h : ∀ ts, ts.length < N → p ts = p' ts) (ts : List T3) (hl : ts.length < N) : withinP p ts = withinP p' ts := by
 unfold withinP
 refine Zn fun a ha => ?_
 rw [Z5y hd h 16 a.2 (by have := (Z8 _ _ _ _ ha).2; omega)]
variable (h : Eq_ N e e') (hd : Dn e)
include h
theorem ZgJ (ts : List T3) (hl : ts.length < N) : itemP e ts = itemP e' ts := by unfold itemP; rw [h ts hl]
theorem Zia (ts : List T3) (hl : ts.length < N) : keyP e ts = keyP e' ts := by unfold keyP; rw [h ts hl]
theorem Z8Z (ts : List T3) (hl : ts.length < N) : whereP e ts = whereP e' ts := by unfold whereP; rw [h ts.tail (by simp; omega)]
theorem Zgs (ts : List T3) (hl : ts.length < N) : joinP e ts = joinP e' ts := by
 unfold joinP
 refine Zn fun a ha => Zn fun s hs => Zn fun b hb => ?_
 have h1 := (Z8 _ _ _ _ ha).2
 have h2 := (Z2E _ _ hs).2
 have h3 := (Z8 _ _ _ _ hb).2
 rw [h b.2 qM]
theorem Zit (ts : List T3) (hl : ts.length < N) : setP e ts = setP e' ts := by
 unfold setP
 refine Zn fun a ha => Zn fun s hs => ?_
 have h1 := (Zw _ _ ha).2
 have h2 := (Z8 _ _ _ _ hs).2
 rw [h s.2 qM]
include hd
theorem Zbv : ∀ (n : Nat) (ts : List T3), ts.length < N → joinsG e n ts = joinsG e' n ts
 | 0, _, _ => rfl
 | n + 1, ts, hl => by
   unfold joinsG
   split
   · have h1 := (Z3c 1 ZS ts).length_le
     rw [← Zgs h (skT 1 ZS ts) qM]
     refine Zn fun y hy => ?_
     rw [Zbv n y.2 (by have := (Z4u hd _ _ hy).2; omega)]
   · rfl
theorem ZfP (ts : List T3) (hl : ts.length < N) : groupP e ts = groupP e' ts := by
 unfold groupP
 split
 · refine Zn fun a ha => ?_
   exact Z5y hd.le h 16 a.2 (by have := (Z8 _ _ _ _ ha).2; have h3 : ts.tail.length ≤ ts.length := (by simp); omega)
 · rfl
theorem ZfA (ts : List T3) (hl : ts.length < N) : orderP e ts = orderP e' ts := by
 unfold orderP
 split
 · refine Zn fun a ha => ?_
   exact Z5y (Z4I hd).le (Zia h) 16 a.2 (by have := (Z8 _ _ _ _ ha).2; have h3 : ts.tail.length ≤ ts.length := (by simp); omega)
 · rfl
theorem ZaE (tb : ByteArray) (ns : List ByteArray) (ts : List T3) (hl : ts.length < N) : insRows e tb ns ts = insRows e' tb ns ts := by
 unfold insRows
 refine Zn fun a ha => ?_
 rw [Z5y (Z2a hd.le).le (Zem hd.le h) 32 a.2 (by have := (Z8 _ _ _ _ ha).2; omega)]
theorem ZeC (ts : List T3) (hl : ts.length < N) : insertP e ts = insertP e' ts := by
 unfold insertP
 refine Zn fun a ha => Zn fun n hn => ?_
 have h1 := (Z8 _ _ _ _ ha).2
 have h2 := (Zw _ _ hn).2
 split
 · refine Zn fun l hl' => ?_
   exact ZaE h hd _ _ _ (by have := (Z2a Zw.le _ _ hl').2; omega)
 · exact ZaE h hd _ _ _ qM
theorem Zeq (ts : List T3) (hl : ts.length < N) : updateP e ts = updateP e' ts := by
 unfold updateP
 refine Zn fun n hn => Zn fun a ha => ?_
 have h1 := (Z8 _ _ _ _ ha).2
 have h2 := (Zw _ _ hn).2
 rw [← Z5y (Z4F hd).le (Zit h) 16 a.2 qM]
 refine Zn fun l hl' => ?_
 rw [Z8Z h l.2 (by have := (Z3a (Z4F hd) 16 _ _ hl').2; omega)]
omit hd in
theorem ZeD (ts : List T3) (hl : ts.length < N) : removeP e ts = removeP e' ts := by
 unfold removeP
 refine Zn fun n hn => Zn fun a ha => ?_
 have h1 := (Zw _ _ ha).2
 have h2 := (Z8 _ _ _ _ hn).2
 rw [Z8Z h a.2 qM]
theorem Zg0 (ts : List T3) (hl : ts.length < N) : queryP e ts = queryP e' ts := by
 have hy : Yl (fun _ => True) (fun _ : Ex => True) e := fun _ _ _ _ => trivial
 unfold queryP
 rw [← Z5y (Z3X hd).le (ZgJ h) 16 ts hl]
 refine Zn fun i hi => Zn fun a ha => Zn fun s hs => ?_
 have h1 := (Z3a (Z3X hd) 16 _ _ hi).2
 have h2 := (Z8 _ _ _ _ ha).2
 have h3 := (Z2E _ _ hs).2
 rw [← Zbv h hd _ s.2 qM]
 refine Zn fun j hj => ?_
 split
 · have h4 := (Z9z hd _ _ _ hj).length_le
   rw [← Z8Z h j.2 qM]
   refine Zn fun w hw => ?_
   have h5 := (Zbl hd _ _ hw).length_le
   rw [← ZfP h hd w.2 qM]
   refine Zn fun g hg => ?_
   have h6 := (ZbE hd _ _ hg).length_le
   rw [ZfA h hd g.2 qM]
 · rfl
theorem ZgD (ts : List T3) (hl : ts.length < N) : stmtP e ts = stmtP e' ts := by
 unfold stmtP
 refine Zn fun w hw => ?_
 have h1 := (ZP 1 _ _ hw).2
 rw [ZeC h hd w.2 qM, Zg0 h hd w.2 qM, Zeq h hd w.2 qM, ZeD h w.2 qM]
end
theorem Z54 (k : Int) (s : ByteArray) (n : Int) (r : List T3) : isT k s (⟨k, s, n⟩ :: r) = true := by simp [isT, sq]
theorem Z4m {α : Type} {f : α → List T3} (h : ∀ y, 1 ≤ (f y).length) : ∀ l : List α, l.length ≤ (l.flatMap f).length
 | [] => Nat.le_refl _
 | y :: l => by
   have := Z4m h l
   have := h y
   rw [List.flatMap_cons, List.length_append, List.length_cons]
   omega
def sepK {α : Type} (tk : α → List T3) : List α → List T3
 | [] => []
 | x :: xs => tk x ++ xs.flatMap fun y => sg ZC :: tk y
def typW (t : Int) : ByteArray := if t == 1 then ZcX else if t == 2 then Zbn else Zby
def tkC (c : Col) : List T3 := nm_ c.nm :: kw (typW c.ty) :: ((if c.nn then [kw ZY, kw Z1D] else []) ++ if c.un then [kw Z20] else [])
def tkN (n : ByteArray) : List T3 := [nm_ n]
def tkSrc (s : Src) : List T3 := nm_ s.tb :: if sq s.nm s.tb then [] else [kw w_AS, nm_ s.nm]
def tkJ (s : Src) : List T3 := kw Z3K :: (tkSrc s ++ kw w_ON :: tkE (s.on.headD ex0))
def tkItm (i : Itm) : List T3 := if i.all then [sg Z14] else tkE i.ex
def tkKy (k : Ky) : List T3 := tkE k.ex ++ if k.desc then [kw Z4C] else []
def tkR (r : List Ex) : List T3 := sg s_lp :: (sepK tkE r ++ [sg s_rp])
def tkSet (p : ByteArray × Ex) : List T3 := nm_ p.1 :: sg s_eq :: tkE p.2
def tkWh : List Ex → List T3
 | [] => []
 | x :: _ => kw Z3E :: tkE x
def tkGr (l : List Ex) : List T3 := if l.isEmpty then [] else kw Z39 :: kw w_BY :: sepK tkE l
def tkOr (l : List Ky) : List T3 := if l.isEmpty then [] else kw Z2f :: kw w_BY :: sepK tkKy l
def tkLim (n : Int) : List T3 := if decide (0 ≤ n) then [kw Z1L, ⟨3, em, n⟩] else []
def tkFr : List Src → List T3
 | [] => []
 | s :: js => tkSrc s ++ js.flatMap tkJ
def tkIns (l : List ByteArray) : List T3 := if l.isEmpty then [] else sg s_lp :: (sepK tkN l ++ [sg s_rp])
def tkS (s : St) : List T3 :=
 if s.kind == 1 then kw Z3V :: kw Z6e :: nm_ s.tb :: sg s_lp :: (sepK tkC s.cols ++ [sg s_rp])
 else if s.kind == 2 then kw Z3V :: kw Za8 :: nm_ s.nm :: kw w_ON :: nm_ s.tb :: sg s_lp :: (sepK tkN s.names ++ sg s_rp :: if s.hash then [kw Z5u, kw Z9V] else [])
 else if s.kind == 3 then kw Z5g :: kw Z9T :: nm_ s.tb :: (tkIns s.names ++ kw Z3A :: sepK tkR s.rows)
 else if s.kind == 4 then kw Z53 :: (sepK tkItm s.items ++ kw Z4z :: (tkFr s.from_ ++ (tkWh s.where_ ++ (tkGr s.group ++ (tkOr s.order ++ tkLim s.limit)))))
 else if s.kind == 5 then kw Z5f :: nm_ s.tb :: kw Zbf :: (sepK tkSet (s.names.zip s.sets) ++ tkWh s.where_)
 else if s.kind == 6 then kw Z5a :: kw Z4z :: nm_ s.tb :: tkWh s.where_
 else [kw (if s.kind == 7 then Z6V else if s.kind == 8 then Z5W else Z4H)]
theorem Zdu {α : Type} {p : Ps α} {tk : α → List T3} {Q : List T3 → Prop} (hq : ∀ r, Q (sg ZC :: r)) {r : List T3} (hr : Q r) (hc : isT 5 ZC r = false) : ∀ (l : List α) (n : Nat), (∀ x ∈ l, ∀ r, Q r → p (tk x ++ r) = some (x, r)) → l.length ≤ n → listG p n (l.flatMap (fun y => sg ZC :: tk y) ++ r) = some (l, r)
 | [], n, _, _ => by
   cases n with
   | zero => rfl
   | succ n => 
     show listG p (n + 1) r = _
     rw [listG, if_neg (by rw [hc]; simp)]
 | x :: l, 0, _, hn => by simp at hn
 | x :: l, n + 1, h, hn => by
   have ih := Zdu hq hr hc l n (fun y hy => h y (List.mem_cons_of_mem _ hy)) (by simpa using hn)
   have e : (x :: l).flatMap (fun y => sg ZC :: tk y) ++ r = sg ZC :: (tk x ++ (l.flatMap (fun y => sg ZC :: tk y) ++ r)) := by simp
   have hQ : Q (l.flatMap (fun y => sg ZC :: tk y) ++ r) := by
     cases l with
     | nil => exact hr
     | cons y l => exact hq _
   rw [e, listG, if_pos (Z54 _ _ _ _), List.tail_cons, h x List.mem_cons_self _ hQ, Option.bind_some, ih]
   rfl
theorem Z6a {α : Type} {p : Ps α} {tk : α → List T3} {Q : List T3 → Prop} {m : Nat} {W : α → Prop} (hq : ∀ r, Q (sg ZC :: r)) {r : List T3} (hr : Q r) (hc : isT 5 ZC r = false) {l : List α} (hl : wfL m W l) (h : ∀ x, W x → ∀ r, Q r → p (tk x ++ r) = some (x, r)) : listP m p (sepK tk l ++ r) = some (l, r) := by
 obtain ⟨h1, h2, h3⟩ := hl
 cases l with
 | nil => simp at h1
 | cons x l =>
   have hQ : Q (l.flatMap (fun y => sg ZC :: tk y) ++ r) := by
     cases l with
     | nil => exact hr
     | cons y l => exact hq _
   have e : sepK tk (x :: l) ++ r = tk x ++ (l.flatMap (fun y => sg ZC :: tk y) ++ r) := by unfold sepK; simp
   have hn : l.length ≤ (l.flatMap (fun y => sg ZC :: tk y) ++ r).length := by
     rw [List.length_append]
     have := Z4m (f := fun y => sg ZC :: tk y) (fun y => by simp) l
     omega
   unfold listP
   rw [e, h x (h3 x List.mem_cons_self) _ hQ, Option.bind_some]
   dsimp only
   rw [Zdu hq hr hc l _ (fun y hy => h y (h3 y (List.mem_cons_of_mem _ hy))) hn, Option.bind_some]
   dsimp only
   rw [if_pos (by simpa using h2)]
theorem Z8V {α : Type} {p : Ps α} {tk : α → List T3} {Q : List T3 → Prop} {W : α → Prop} (hq : ∀ r, Q (sg ZC :: r)) (hr : ∀ r, Q (sg s_rp :: r)) {l : List α} (hl : wfL 16 W l) (h : ∀ x, W x → ∀ r, Q r → p (tk x ++ r) = some (x, r)) (r : List T3) : withinP p (sg s_lp :: (sepK tk l ++ sg s_rp :: r)) = some (l, r) := by
 unfold withinP
 rw [Z2d rfl, Option.bind_some]
 dsimp only
 rw [Z6a hq (hr r) rfl hl h, Option.bind_some]
 dsimp only
 rw [Z2d rfl]; rfl
theorem ZkO {a b : ByteArray} (h : sq a b = true) : a = b := by
 cases a; cases b
 simpa [sq] using h
section
variable {nk : ByteArray → Prop}
theorem Zjq (n : ByteArray) (r : List T3) : nameP (tkN n ++ r) = some (n, r) := rfl
structure Cx_ (r : List T3) : Prop where
 n : isT 1 ZY r = false
 p : isT 1 Z3S r = false
 u : isT 1 Z20 r = false
theorem ZcC {n : ByteArray} {t : Int} {nn un : Bool} {r : List T3} (hr : Cx_ r) : colEnd n t nn ((if un then [kw Z20] else []) ++ r) = some (⟨n, t, nn, un⟩, r) := by
 cases un with
 | true => rfl
 | false =>
   show colEnd n t nn r = _
   unfold colEnd skT
   rw [if_neg (by rw [hr.p]; simp), hr.u]; rfl
theorem Zkr {c : Col} (h : wfCol nk c) {r : List T3} (hr : Cx_ r) : colP (tkC c ++ r) = some (c, r) := by
 obtain ⟨n, t, nn, un⟩ := c
 have hty : ∀ us, typeP (kw (typW t) :: us) = some (t, us) := fun us => by
   obtain ⟨_, h1, h2⟩ := h
   have : t = 1 ∨ t = 2 ∨ t = 3 := by dsimp only at h1 h2; omega
   rcases this with rfl|rfl|rfl <;> rfl
 unfold colP
 show (nameP (nm_ n :: (kw (typW t) :: ((if nn = true then [kw ZY, kw Z1D] else []) ++ if un = true then [kw Z20] else []) ++ r))).bind _ = _
 rw [Z60 rfl, Option.bind_some]
 dsimp only
 rw [List.cons_append, hty, Option.bind_some]
 dsimp only
 cases nn with
 | true =>
   show (if isT 1 ZY (kw ZY :: kw Z1D :: ((if un = true then [kw Z20] else []) ++ r)) = true then _ else _) = _
   rw [if_pos (Z54 _ _ _ _)]
   show (wantP 1 Z1D (kw Z1D :: ((if un = true then [kw Z20] else []) ++ r))).bind _ = _
   rw [Z2d rfl, Option.bind_some]
   exact ZcC hr
 | false =>
   show (if isT 1 ZY ((if un = true then [kw Z20] else []) ++ r) = true then _ else _) = _
   rw [if_neg (by cases un with
                  | true => exact Bool.false_ne_true
                  | false => show ¬ isT 1 ZY r = true; rw [hr.n]; simp)]
   exact ZcC hr
theorem Zgj {s : Src} {r : List T3} (h1 : isT 1 w_AS r = false) (h2 : isK 2 r = false) : sourceP (tkSrc s ++ r) = some ({ s with on := [] }, r) := by
 unfold sourceP tkSrc
 rw [List.cons_append, Z60 rfl, Option.bind_some]
 dsimp only
 cases hs : sq s.nm s.tb with
 | true =>
   rw [if_pos rfl, List.nil_append, if_neg (by rw [h1]; simp), if_neg (by rw [h2]; simp), ZkO hs]
 | false =>
   show (if isT 1 w_AS (kw w_AS :: nm_ s.nm :: r) = true then _ else _) = _
   rw [if_pos (Z54 _ _ _ _)]
   rfl
variable (hnk : ∀ s, nk s → sq s em = false)
include hnk
theorem Z7D {x : Ex} (h : Wf nk x) {r : List T3} (hr : Nx r) : exprX (tkE x ++ r) = some (x, r) := (ZiB hnk h).2 r hr
theorem Zkj {i : Itm} (h : wfItm nk i) {r : List T3} (hr : Nx r) : itemP exprX (tkItm i ++ r) = some (i, r) := by
 obtain ⟨a, x⟩ := i
 rcases h with ⟨h1, h2⟩ | ⟨h1, h2⟩
 · dsimp only at h1 h2; subst h1 h2; rfl
 · dsimp only at h1 h2; subst h1
   show itemP exprX (tkE x ++ r) = _
   unfold itemP
   rw [if_neg (by rw [Zfv (ZiB hnk h2).2]; simp), Z7D hnk h2 hr]; rfl
structure Ke (r : List T3) : Prop where
 x : Nx r
 a : isT 1 Z7C r = false
 d : isT 1 Z4C r = false
theorem ZkL {k : Ky} (h : wfKy nk k) {r : List T3} (hr : Ke r) : keyP exprX (tkKy k ++ r) = some (k, r) := by
 obtain ⟨x, d⟩ := k
 have hx : Wf nk x := h
 unfold keyP tkKy
 cases d with
 | true =>
   rw [if_pos rfl, List.append_assoc, Z7D hnk hx ⟨rfl, rfl, rfl, rfl, rfl, rfl, rfl⟩]; rfl
 | false =>
   rw [if_neg (by simp), List.append_nil, Z7D hnk hx hr.x, Option.map_some]
   dsimp only
   rw [if_neg (by rw [hr.a]; simp), hr.d]
   unfold skT
   rw [if_neg (by rw [hr.d]; simp)]
theorem Zko {l : List Ex} (h : wfL 16 (Wf nk) l) (r : List T3) : withinP exprX (tkR l ++ r) = some (l, r) := by
 unfold tkR
 have e : sg s_lp :: (sepK tkE l ++ [sg s_rp]) ++ r = sg s_lp :: (sepK tkE l ++ sg s_rp :: r) := by simp
 rw [e]
 exact Z8V Z7g ZfC h (fun x hx r hr => Z7D hnk hx hr) r
theorem Zkz {p : ByteArray × Ex} (h : nk p.1 ∧ Wf nk p.2) {r : List T3} (hr : Nx r) : setP exprX (tkSet p ++ r) = some (p, r) := by
 unfold setP tkSet
 rw [List.cons_append, Z60 rfl, Option.bind_some]
 dsimp only
 rw [List.cons_append, Z2d rfl, Option.bind_some]
 dsimp only
 rw [Z7D hnk h.2 hr]; rfl
theorem Zfz {l : List Ex} (h : wfWh nk l) {r : List T3} (hr : Nx r) (hw : isT 1 Z3E r = false) : whereP exprX (tkWh l ++ r) = some (l, r) := by
 unfold whereP
 rcases h with rfl | ⟨x, rfl, hx⟩
 · show (if isT 1 Z3E r = true then _ else _) = _
   rw [if_neg (by rw [hw]; simp)]; rfl
 · show (if isT 1 Z3E (kw Z3E :: (tkE x ++ r)) = true then _ else _) = _
   rw [if_pos (Z54 _ _ _ _)]
   show (exprX (tkE x ++ r)).map _ = _
   rw [Z7D hnk hx hr]; rfl
theorem Zla {l : List Ex} (h : l = [] ∨ wfL 16 (Wf nk) l) {r : List T3} (hr : Nx r) (hc : isT 5 ZC r = false) (hw : isT 1 Z39 r = false) : groupP exprX (tkGr l ++ r) = some (l, r) := by
 unfold groupP
 rcases h with rfl | h
 · show (if isT 1 Z39 r = true then _ else _) = _
   rw [if_neg (by rw [hw]; simp)]; rfl
 · have e : tkGr l = kw Z39 :: kw w_BY :: sepK tkE l := by
     unfold tkGr
     rw [if_neg (by have := h.1; cases l with
                    | nil => simp at this
                    | cons x l => simp)]
   rw [e, List.cons_append, if_pos (Z54 _ _ _ _)]
   show (wantP 1 w_BY (kw w_BY :: (sepK tkE l ++ r))).bind _ = _
   rw [Z2d rfl, Option.bind_some]
   exact Z6a Z7g hr hc h fun x hx r hr => Z7D hnk hx hr
theorem Zl8 {l : List Ky} (h : l = [] ∨ wfL 16 (wfKy nk) l) {r : List T3} (hr : Ke r) (hc : isT 5 ZC r = false) (hw : isT 1 Z2f r = false) : orderP exprX (tkOr l ++ r) = some (l, r) := by
 unfold orderP
 rcases h with rfl | h
 · show (if isT 1 Z2f r = true then _ else _) = _
   rw [if_neg (by rw [hw]; simp)]; rfl
 · have e : tkOr l = kw Z2f :: kw w_BY :: sepK tkKy l := by
     unfold tkOr
     rw [if_neg (by have := h.1; cases l with
                    | nil => simp at this
                    | cons x l => simp)]
   rw [e, List.cons_append, if_pos (Z54 _ _ _ _)]
   show (wantP 1 w_BY (kw w_BY :: (sepK tkKy l ++ r))).bind _ = _
   rw [Z2d rfl, Option.bind_some]
   exact Z6a (Q := Ke) (fun r => ⟨Z7g r, rfl, rfl⟩) hr hc h fun x hx r hr => ZkL hnk hx hr
omit hnk in
theorem Zkl {n : Int} (h : n = -1 ∨ (0 ≤ n ∧ n ≤ 9223372036854775807)) : limitP (tkLim n) = some (n, []) := by
 unfold tkLim
 rcases h with rfl | h
 · rfl
 · rw [if_pos (by simp; omega)]; rfl
theorem ZjG {s : Src} (h : wfOn nk s) {r : List T3} (hr : Nx r) : joinP exprX (tkJ s ++ r) = some (s, r) := by
 obtain ⟨tb, nm, on⟩ := s
 obtain ⟨h1, x, h2, hx⟩ := h
 dsimp only at h2
 subst h2
 unfold joinP tkJ
 rw [List.cons_append, Z2d rfl, Option.bind_some]
 dsimp only
 rw [List.append_assoc, Zgj rfl rfl, Option.bind_some]
 dsimp only
 rw [List.cons_append, Z2d rfl, Option.bind_some]
 show (exprX (tkE x ++ r)).map _ = _
 rw [Z7D hnk hx hr]; rfl
theorem ZdS {r : List T3} (hr : Nx r) (h1 : isT 1 ZS r = false) (h2 : isT 1 Z3K r = false) : ∀ (l : List Src) (n : Nat), (∀ j ∈ l, wfOn nk j) → l.length ≤ n → joinsG exprX n (l.flatMap tkJ ++ r) = some (l, r)
 | [], n, _, _ => by
   cases n with
   | zero => rfl
   | succ n =>
     show joinsG exprX (n + 1) r = _
     rw [joinsG, if_neg (by rw [h1, h2]; simp)]
 | x :: l, 0, _, hn => by simp at hn
 | x :: l, n + 1, h, hn => by
   have ih := ZdS hr h1 h2 l n (fun y hy => h y (List.mem_cons_of_mem _ hy)) (by simpa using hn)
   have hN : Nx (l.flatMap tkJ ++ r) := by
     cases l with
     | nil => exact hr
     | cons y l => exact ⟨rfl, rfl, rfl, rfl, rfl, rfl, rfl⟩
   have e : (x :: l).flatMap tkJ ++ r = tkJ x ++ (l.flatMap tkJ ++ r) := by simp
   have e2 : skT 1 ZS (tkJ x ++ (l.flatMap tkJ ++ r)) = tkJ x ++ (l.flatMap tkJ ++ r) := rfl
   have e3 : (isT 1 ZS (tkJ x ++ (l.flatMap tkJ ++ r)) || isT 1 Z3K (tkJ x ++ (l.flatMap tkJ ++ r))) = true := rfl
   rw [e, joinsG, if_pos e3, e2, ZjG hnk (h x List.mem_cons_self) hN, Option.bind_some]
   dsimp only
   rw [ih]; rfl
structure Qx (r : List T3) : Prop where
 x : Nx r
 c : isT 5 ZC r = false
 asc : isT 1 Z7C r = false
 desc : isT 1 Z4C r = false
 inner : isT 1 ZS r = false
 join : isT 1 Z3K r = false
 as_ : isT 1 w_AS r = false
 nm : isK 2 r = false
omit hnk in
theorem Zgd : Qx [] := ⟨Zbo, rfl, rfl, rfl, rfl, rfl, rfl, rfl⟩
omit hnk in
theorem Zkm (n : Int) : Qx (tkLim n) := by
 unfold tkLim
 split
 · exact ⟨⟨rfl, rfl, rfl, rfl, rfl, rfl, rfl⟩, rfl, rfl, rfl, rfl, rfl, rfl, rfl⟩
 · exact Zgd
omit hnk in
theorem Zlz {l : List Ky} {r : List T3} (hr : Qx r) : Qx (tkOr l ++ r) := by
 unfold tkOr
 split
 · exact hr
 · exact ⟨⟨rfl, rfl, rfl, rfl, rfl, rfl, rfl⟩, rfl, rfl, rfl, rfl, rfl, rfl, rfl⟩
omit hnk in
theorem Zlf {l : List Ex} {r : List T3} (hr : Qx r) : Qx (tkGr l ++ r) := by
 unfold tkGr
 split
 · exact hr
 · exact ⟨⟨rfl, rfl, rfl, rfl, rfl, rfl, rfl⟩, rfl, rfl, rfl, rfl, rfl, rfl, rfl⟩
omit hnk in
theorem ZiA {l : List Ex} {r : List T3} (hr : Qx r) : Qx (tkWh l ++ r) := by
 cases l with
 | nil => exact hr
 | cons x l => exact ⟨⟨rfl, rfl, rfl, rfl, rfl, rfl, rfl⟩, rfl, rfl, rfl, rfl, rfl, rfl, rfl⟩
omit hnk in
theorem Zap : ∀ l : List (ByteArray × Ex), (l.map (·.1)).zip (l.map (·.2)) = l
 | [] => rfl
 | x :: l => by rw [List.map_cons, List.map_cons, List.zip_cons_cons, Zap l]
theorem ZiY {s : St} (h : WfS nk s) : stmtP exprX (tkS s) = some (s, []) := by
 cases h with
 | @tab tb cols h hc =>
   show createP (kw Z6e :: nm_ tb :: sg s_lp :: (sepK tkC cols ++ [sg s_rp])) = _
   unfold createP
   rw [if_pos (Z54 _ _ _ _)]
   show (nameP (nm_ tb :: sg s_lp :: (sepK tkC cols ++ [sg s_rp]))).bind _ = _
   rw [Z60 rfl, Option.bind_some]
   dsimp only
   rw [Z8V (Q := Cx_) (fun _ => ⟨rfl, rfl, rfl⟩) (fun _ => ⟨rfl, rfl, rfl⟩) hc (fun x hx r hr => Zkr hx hr)]; rfl
 | @idx nm tb m hash h1 h2 h3 => cases hash <;> rfl
 | @ins tb names rows h hn hr =>
   show insertP exprX (kw Z9T :: nm_ tb :: (tkIns names ++ kw Z3A :: sepK tkR rows)) = _
   have hrows : ∀ ns, insRows exprX tb ns (kw Z3A :: sepK tkR rows) = some ({ stK 3 with tb := tb, names := ns, rows := rows }, []) := fun ns => by
     unfold insRows
     rw [Z2d rfl, Option.bind_some]
     dsimp only
     rw [← List.append_nil (sepK tkR rows), Z6a (Q := fun _ => True) (fun _ => trivial) trivial rfl hr (fun x hx r _ => Zko hnk hx r)]; rfl
   unfold insertP
   rw [Z2d rfl, Option.bind_some]
   dsimp only
   rw [Z60 rfl, Option.bind_some]
   dsimp only
   rcases hn with rfl | hn
   · exact hrows []
   · have e : tkIns names = sg s_lp :: (sepK tkN names ++ [sg s_rp]) := by
       unfold tkIns
       rw [if_neg (by have := hn.1; cases names with
                      | nil => simp at this
                      | cons x l => simp)]
     have e2 : tkIns names ++ kw Z3A :: sepK tkR rows = sg s_lp :: (sepK tkN names ++ sg s_rp :: kw Z3A :: sepK tkR rows) := by rw [e]; simp
     rw [e2, if_pos (show isLp (sg s_lp :: (sepK tkN names ++ sg s_rp :: kw Z3A :: sepK tkR rows)) = true from rfl), Z8V (Q := fun _ => True) (fun _ => trivial) (fun _ => trivial) hn (fun x _ r _ => Zjq x r), Option.bind_some]
     exact hrows names
 | @sel items s js wh gr od lim hi hs hs0 hj hj3 hw hg ho hl =>
   have q1 := Zkm lim
   have q2 := Zlz (l := od) q1
   have q3 := Zlf (l := gr) q2
   have q4 := ZiA (l := wh) q3
   show queryP exprX (sepK tkItm items ++ kw Z4z :: ((tkSrc s ++ js.flatMap tkJ) ++ (tkWh wh ++ (tkGr gr ++ (tkOr od ++ tkLim lim))))) = _
   unfold queryP
   rw [Z6a Z7g ⟨rfl, rfl, rfl, rfl, rfl, rfl, rfl⟩ rfl hi (fun x hx r hr => Zkj hnk hx hr), Option.bind_some]
   dsimp only
   rw [Z2d rfl, Option.bind_some]
   dsimp only
   have hsn : isT 1 w_AS (js.flatMap tkJ ++ (tkWh wh ++ (tkGr gr ++ (tkOr od ++ tkLim lim)))) = false ∧ isK 2 (js.flatMap tkJ ++ (tkWh wh ++ (tkGr gr ++ (tkOr od ++ tkLim lim)))) = false := by
     cases js with
     | nil => exact ⟨q4.as_, q4.nm⟩
     | cons j js => exact ⟨rfl, rfl⟩
   rw [List.append_assoc, Zgj hsn.1 hsn.2, Option.bind_some]
   dsimp only
   have hjn : js.length ≤ (js.flatMap tkJ ++ (tkWh wh ++ (tkGr gr ++ (tkOr od ++ tkLim lim)))).length := by
     rw [List.length_append]
     have := Z4m (f := tkJ) (fun y => by unfold tkJ; simp) js
     omega
   rw [ZdS hnk q4.x q4.inner q4.join js _ hj hjn, Option.bind_some]
   dsimp only
   rw [if_pos hj3]
   have w3 : isT 1 Z3E (tkGr gr ++ (tkOr od ++ tkLim lim)) = false := by
     unfold tkGr tkOr tkLim
     repeat' split
     all_goals rfl
   have w2 : isT 1 Z39 (tkOr od ++ tkLim lim) = false := by
     unfold tkOr tkLim
     repeat' split
     all_goals rfl
   have w1 : isT 1 Z2f (tkLim lim) = false := by
     unfold tkLim
     repeat' split
     all_goals rfl
   rw [Zfz hnk hw q3.x w3, Option.bind_some]
   dsimp only
   rw [Zla hnk hg q2.x q2.c w2, Option.bind_some]
   dsimp only
   rw [Zl8 hnk ho ⟨q1.x, q1.asc, q1.desc⟩ q1.c w1, Option.bind_some]
   dsimp only
   rw [Zkl hl]
   obtain ⟨tb, nm, on⟩ := s
   dsimp only at hs0
   subst hs0
   rfl
 | @upd tb l wh h hl hw =>
   show updateP exprX (nm_ tb :: kw Zbf :: (sepK tkSet ((l.map (·.1)).zip (l.map (·.2))) ++ tkWh wh)) = _
   rw [Zap]
   have q := ZiA (l := wh) Zgd
   rw [List.append_nil] at q
   unfold updateP
   rw [Z60 rfl, Option.bind_some]
   dsimp only
   rw [Z2d rfl, Option.bind_some]
   dsimp only
   rw [Z6a Z7g q.x q.c hl (fun x hx r hr => Zkz hnk hx hr), Option.bind_some]
   dsimp only
   rw [← List.append_nil (tkWh wh), Zfz hnk hw Zbo rfl]; rfl
 | @del tb wh h hw =>
   show removeP exprX (kw Z4z :: nm_ tb :: tkWh wh) = _
   unfold removeP
   rw [Z2d rfl, Option.bind_some]
   dsimp only
   rw [Z60 rfl, Option.bind_some]
   dsimp only
   rw [← List.append_nil (tkWh wh), Zfz hnk hw Zbo rfl]; rfl
 | pl h => rcases h with rfl|rfl|rfl <;> rfl
theorem ZdX {s : St} (h : WfS nk s) : wholeP (tkS s) = some s := by
 unfold wholeP
 rw [ZgD (e' := exprX) (N := (tkS s).length + 1) (fun ts hl => (Ze1 ts hl).symm) (Z2l _) _ (Nat.lt_succ_self _), ZiY hnk h]
 rfl
end
end Go.Pz
namespace Go.Proofs.YtbedigkncjbggaaGreatDoor
open Go Go.Vc
abbrev Z9P : Nat := 10
abbrev Z50 : Nat := 13
abbrev Zdl : Nat := 15
abbrev Z7e : Nat := 17
abbrev Zeo : Nat := 18
abbrev ZcO : Nat := 19
abbrev ZcV : Nat := 20
abbrev Z4w : Nat := 22
abbrev Zgq : Nat := 24
abbrev Z2N : Nat := 25
abbrev Z47 : Nat := 26
abbrev Z8h : Nat := 27
abbrev Z86 : Nat := 28
abbrev ZdW : Nat := 29
abbrev ZcP : Nat := 40
abbrev Z6I : Nat := 41
abbrev Z7o : Nat := 42
abbrev Z8B : Nat := 43
abbrev Z6c : Nat := 44
abbrev ZbI : Nat := 45
abbrev ZcU : Nat := 46
abbrev Zc5 : Nat := 47
abbrev Zbc : Nat := 53
abbrev Ze5 : Nat := 54
abbrev Z8e : Nat := 56
abbrev Z99 : Nat := 57
abbrev Z3f : Nat := 58
abbrev Z3g : Nat := 59
abbrev Z3y : Nat := 60
abbrev Z3h : Nat := 61
abbrev Z3e : Nat := 62
abbrev ZcT : Nat := 63
abbrev Z8v : Nat := 64
abbrev Z8k : Nat := 65
abbrev Z5T : Nat := 66
abbrev Z6Y : Nat := 83
abbrev Z5d : Nat := 84
abbrev Z8g : Nat := 85
abbrev Z83 : Nat := 86
abbrev Z9L : Nat := 87
abbrev Z8W : Nat := 88
abbrev ZaI : Nat := 89
abbrev Zc0 : Nat := 90
abbrev ZfV : Nat := 91
abbrev Z9t : Nat := 92
abbrev Zat : Nat := 93
abbrev Z8M : Nat := 94
abbrev Z9d : Nat := 95
abbrev Z9r : Nat := 97
abbrev Zdh : Nat := 98
abbrev Z5O : Nat := 99
abbrev ZaL : Nat := 100
abbrev Z4V : Nat := 101
abbrev Z5G : Nat := 102
abbrev Z5N : Nat := 103
abbrev Z88 : Nat := 104
abbrev Z5m : Nat := 105
abbrev Z6Q : Nat := 106
abbrev Z4S : Nat := 107
abbrev Z80 : Nat := 108
abbrev Z8o : Nat := 109
abbrev Z4s : Nat := 110
abbrev Z31 : Nat := 111
abbrev Z7q : Nat := 112
abbrev ZH : Nat := 113
abbrev Z5n : Nat := 114
abbrev Z5i : Nat := 115
abbrev Z7p : Nat := 116
abbrev Z7U : Nat := 117
abbrev Z5r : Nat := 118
abbrev Z5D : Nat := 119
abbrev Z3W : Nat := 120
abbrev Z5S : Nat := 121
abbrev Z4h : Nat := 122
abbrev Z1C : Nat := 123
abbrev Z9o : Nat := 139
abbrev Z4X : Nat := 140
abbrev Z9J : Nat := 141
abbrev Zas : Nat := 142
abbrev Z4Q : Nat := 143
abbrev Z76 : Nat := 144
abbrev Z7Z : Nat := 145
abbrev Z30 : Nat := 146
abbrev Zdb : Nat := 164
abbrev Z1V : Nat := 165
abbrev Z32 : Nat := 178
abbrev Z2k : Nat := 189
abbrev Z1H : Nat := 191
abbrev Z2O : Nat := 192
abbrev Zbr : Nat := 193
abbrev Z75 : Nat := 194
abbrev Zd2 : Nat := 2
abbrev Z4Z : Nat := 3
abbrev ZeS : Nat := 4
abbrev ZdZ : Nat := 5
abbrev Zx : Nat := 9
abbrev Z1z : Nat := 28
abbrev ZD : Nat := 31
abbrev Z1R : Nat := 32
abbrev Zdg : Nat := 40
abbrev Z6 : Nat := 42
abbrev Z23 : Nat := 46
abbrev Z12 : Nat := 50
abbrev Z8n : Nat := 59
abbrev Z2M : Nat := 63
abbrev Z9e : Nat := 76
abbrev Z2o : Nat := 78
abbrev Z1f : Nat := 92
abbrev Z2p : Nat := 94
theorem Zb3 : ApTy Tryz.prog 23 50 4 32 := ⟨by kernel_rfl, by kernel_rfl⟩
theorem Z1l : ApTy Tryz.prog 28 42 8 104 := ⟨by kernel_rfl, by kernel_rfl⟩
theorem ZbK : ApTy Tryz.prog 26 46 9 112 := ⟨by kernel_rfl, by kernel_rfl⟩
theorem ZcL : ApTy Tryz.prog 29 78 9 112 := ⟨by kernel_rfl, by kernel_rfl⟩
theorem Zb5 : ApTy Tryz.prog 27 76 3 56 := ⟨by kernel_rfl, by kernel_rfl⟩
theorem Zbp : ApTy Tryz.prog 55 94 3 32 := ⟨by kernel_rfl, by kernel_rfl⟩
theorem Zax : ApTy Tryz.prog 25 28 1 24 := ⟨by kernel_rfl, by kernel_rfl⟩
theorem Z2r : ApTy Tryz.prog 24 9 1 16 := ⟨by kernel_rfl, by kernel_rfl⟩
theorem ZaG : ApTy Tryz.prog 37 5 1 1 := ⟨by kernel_rfl, by kernel_rfl⟩
theorem Z5c : elSize Tryz.prog 23 = some 4 := by kernel_rfl
theorem Z1X : elSize Tryz.prog 28 = some 8 := by kernel_rfl
theorem Z3P : elSize Tryz.prog 26 = some 9 := by kernel_rfl
theorem Z46 : elSize Tryz.prog 29 = some 9 := by kernel_rfl
theorem Z1I : elSize Tryz.prog 27 = some 3 := by kernel_rfl
theorem Z17 : elSize Tryz.prog 55 = some 3 := by kernel_rfl
theorem Zge : elSize Tryz.prog 170 = some 1 := by kernel_rfl
theorem Z2s : elSize Tryz.prog 25 = some 1 := by kernel_rfl
theorem Z1B : elSize Tryz.prog 24 = some 1 := by kernel_rfl
theorem Zer : elSize Tryz.prog 37 = some 1 := by kernel_rfl
theorem Zbq : fldOff Tryz.prog 50 0 = some 0 := by kernel_rfl
theorem Z2n : fldOff Tryz.prog 50 1 = some 1 := by kernel_rfl
theorem Z4k : fldOff Tryz.prog 50 2 = some 2 := by kernel_rfl
theorem Z2P : fldOff Tryz.prog 50 3 = some 3 := by kernel_rfl
theorem Z28 : fldOff Tryz.prog 42 0 = some 0 := by kernel_rfl
theorem Z6F : fldOff Tryz.prog 42 1 = some 1 := by kernel_rfl
theorem Z43 : fldOff Tryz.prog 42 2 = some 4 := by kernel_rfl
theorem Z3l : fldOff Tryz.prog 42 3 = some 5 := by kernel_rfl
theorem Z9j : fldOff Tryz.prog 42 4 = some 6 := by kernel_rfl
theorem Z2U : fldOff Tryz.prog 42 5 = some 7 := by kernel_rfl
theorem Z6E : fldOff Tryz.prog 46 0 = some 0 := by kernel_rfl
theorem Z6A : fldOff Tryz.prog 46 1 = some 1 := by kernel_rfl
theorem Z5F : fldOff Tryz.prog 78 0 = some 0 := by kernel_rfl
theorem Z5L : fldOff Tryz.prog 78 1 = some 8 := by kernel_rfl
theorem Z2R : fldOff Tryz.prog 76 0 = some 0 := by kernel_rfl
theorem Z2q : fldOff Tryz.prog 76 1 = some 1 := by kernel_rfl
theorem Z1O : fldOff Tryz.prog 76 2 = some 2 := by kernel_rfl
theorem Z52 : fldOff Tryz.prog 31 0 = some 0 := by kernel_rfl
theorem Z27 : fldOff Tryz.prog 31 1 = some 1 := by kernel_rfl
theorem Z1p : fldOff Tryz.prog 31 10 = some 10 := by kernel_rfl
theorem Z1M : fldOff Tryz.prog 31 11 = some 11 := by kernel_rfl
theorem Z36 : fldOff Tryz.prog 31 12 = some 12 := by kernel_rfl
theorem Z4J : fldOff Tryz.prog 31 13 = some 13 := by kernel_rfl
theorem Z51 : fldOff Tryz.prog 31 2 = some 2 := by kernel_rfl
theorem Z2Z : fldOff Tryz.prog 31 3 = some 3 := by kernel_rfl
theorem Z1u : fldOff Tryz.prog 31 4 = some 4 := by kernel_rfl
theorem Z1v : fldOff Tryz.prog 31 5 = some 5 := by kernel_rfl
theorem Z1T : fldOff Tryz.prog 31 6 = some 6 := by kernel_rfl
theorem Z10 : fldOff Tryz.prog 31 7 = some 7 := by kernel_rfl
theorem Z29 : fldOff Tryz.prog 31 8 = some 8 := by kernel_rfl
theorem Z3q : fldOff Tryz.prog 31 9 = some 9 := by kernel_rfl
theorem Z35 : fldOff Tryz.prog 94 0 = some 0 := by kernel_rfl
theorem Z5X : fldOff Tryz.prog 94 1 = some 1 := by kernel_rfl
theorem Zc8 : fldOff Tryz.prog 94 2 = some 2 := by kernel_rfl
theorem Z3N : fldOff Tryz.prog 40 0 = some 0 := by kernel_rfl
theorem Z3D : fldOff Tryz.prog 40 1 = some 1 := by kernel_rfl
theorem Z3O : fldOff Tryz.prog 40 2 = some 2 := by kernel_rfl
theorem ZO : fldOff Tryz.prog 92 0 = some 0 := by kernel_rfl
theorem Zg : fldOff Tryz.prog 92 1 = some 1 := by kernel_rfl
theorem Zk : fldOff Tryz.prog 63 0 = some 0 := by kernel_rfl
theorem ZdT : Shape Tryz.prog 89 (fun i => some (i * 1, 1)) [.string ⟨#[]⟩, .string ⟨#[]⟩, .string ⟨#[]⟩, .string ⟨#[]⟩, .string ⟨#[]⟩, .string ⟨#[]⟩, .string ⟨#[]⟩, .string ⟨#[]⟩, .string ⟨#[]⟩, .string ⟨#[]⟩, .string ⟨#[]⟩, .string ⟨#[]⟩, .string ⟨#[]⟩] := ⟨fun _ => by kernel_rfl⟩
theorem Zek : Shape Tryz.prog 86 (fun i => some (i * 1, 1)) [.string ⟨#[]⟩, .string ⟨#[]⟩, .string ⟨#[]⟩] := ⟨fun _ => by kernel_rfl⟩
theorem ZaM : Shape Tryz.prog 88 (fun i => some (i * 1, 1)) [.string ⟨#[]⟩, .string ⟨#[]⟩, .string ⟨#[]⟩, .string ⟨#[]⟩] := ⟨fun _ => by kernel_rfl⟩
theorem ZcS : Shape Tryz.prog 50 (fun i => #[(0, 1), (1, 1), (2, 1), (3, 1)][i]?) [.string ⟨#[]⟩, .int .i64 0, .bool false, .bool false] := ⟨fun _ => by kernel_rfl⟩
theorem Z6l : Shape Tryz.prog 42 (fun i => #[(0, 1), (1, 3), (4, 1), (5, 1), (6, 1), (7, 1)][i]?) [.int .i64 0, .int .i64 0, .int .i64 0, .string ⟨#[]⟩, .string ⟨#[]⟩, .string ⟨#[]⟩, .int .i64 0, .slice none 0 0] := ⟨fun _ => by kernel_rfl⟩
theorem ZaO : Shape Tryz.prog 46 (fun i => #[(0, 1), (1, 8)][i]?) [.bool false, .int .i64 0, .int .i64 0, .int .i64 0, .string ⟨#[]⟩, .string ⟨#[]⟩, .string ⟨#[]⟩, .int .i64 0, .slice none 0 0] := ⟨fun _ => by kernel_rfl⟩
theorem Zg1 : Shape Tryz.prog 78 (fun i => #[(0, 8), (8, 1)][i]?) [.int .i64 0, .int .i64 0, .int .i64 0, .string ⟨#[]⟩, .string ⟨#[]⟩, .string ⟨#[]⟩, .int .i64 0, .slice none 0 0, .bool false] := ⟨fun _ => by kernel_rfl⟩
theorem ZcM : Shape Tryz.prog 76 (fun i => #[(0, 1), (1, 1), (2, 1)][i]?) [.string ⟨#[]⟩, .string ⟨#[]⟩, .slice none 0 0] := ⟨fun _ => by kernel_rfl⟩
theorem Z2D : Shape Tryz.prog 31 (fun i => #[(0, 1), (1, 1), (2, 1), (3, 1), (4, 1), (5, 1), (6, 1), (7, 1), (8, 1), (9, 1), (10, 1), (11, 1), (12, 1), (13, 1)][i]?) [.int .i64 0, .string ⟨#[]⟩, .string ⟨#[]⟩, .slice none 0 0, .slice none 0 0, .slice none 0 0, .slice none 0 0, .slice none 0 0, .slice none 0 0, .slice none 0 0, .slice none 0 0, .int .i64 0, .slice none 0 0, .bool false] := ⟨fun _ => by kernel_rfl⟩
theorem Z1A : Shape Tryz.prog 94 (fun i => #[(0, 1), (1, 1), (2, 1)][i]?) [.int .i64 0, .string ⟨#[]⟩, .int .i64 0] := ⟨fun _ => by kernel_rfl⟩
theorem Z4q : Shape Tryz.prog 40 (fun i => #[(0, 1), (1, 1), (2, 1)][i]?) [.int .i64 0, .int .i64 0, .string ⟨#[]⟩] := ⟨fun _ => by kernel_rfl⟩
theorem ZbZ : Shape Tryz.prog 92 (fun i => #[(0, 1), (1, 1)][i]?) [.string ⟨#[]⟩, .int .i64 0] := ⟨fun _ => by kernel_rfl⟩
theorem Z8z : Shape Tryz.prog 59 (fun i => #[][i]?) [] := ⟨fun _ => by kernel_rfl⟩
theorem Z7z : Shape Tryz.prog 63 (fun i => #[(0, 1)][i]?) [.slice none 0 0] := ⟨fun _ => by kernel_rfl⟩
theorem Z7d : SlShape Tryz.prog 23 50 4 [.string ⟨#[]⟩, .int .i64 0, .bool false, .bool false] := ⟨by kernel_rfl, by kernel_rfl, by omega⟩
theorem ZT : SlShape Tryz.prog 28 42 8 [.int .i64 0, .int .i64 0, .int .i64 0, .string ⟨#[]⟩, .string ⟨#[]⟩, .string ⟨#[]⟩, .int .i64 0, .slice none 0 0] := ⟨by kernel_rfl, by kernel_rfl, by omega⟩
theorem Z8D : SlShape Tryz.prog 26 46 9 [.bool false, .int .i64 0, .int .i64 0, .int .i64 0, .string ⟨#[]⟩, .string ⟨#[]⟩, .string ⟨#[]⟩, .int .i64 0, .slice none 0 0] := ⟨by kernel_rfl, by kernel_rfl, by omega⟩
theorem Z9i : SlShape Tryz.prog 29 78 9 [.int .i64 0, .int .i64 0, .int .i64 0, .string ⟨#[]⟩, .string ⟨#[]⟩, .string ⟨#[]⟩, .int .i64 0, .slice none 0 0, .bool false] := ⟨by kernel_rfl, by kernel_rfl, by omega⟩
theorem Z7a : SlShape Tryz.prog 27 76 3 [.string ⟨#[]⟩, .string ⟨#[]⟩, .slice none 0 0] := ⟨by kernel_rfl, by kernel_rfl, by omega⟩
theorem Zbw : SlShape Tryz.prog 55 94 3 [.int .i64 0, .string ⟨#[]⟩, .int .i64 0] := ⟨by kernel_rfl, by kernel_rfl, by omega⟩
theorem Z7w : SlShape Tryz.prog 170 3 1 [.int .i64 0] := ⟨by kernel_rfl, by kernel_rfl, by omega⟩
theorem Z4T : SlShape Tryz.prog 25 28 1 [.slice none 0 0] := ⟨by kernel_rfl, by kernel_rfl, by omega⟩
theorem Z1c : SlShape Tryz.prog 24 9 1 [.string ⟨#[]⟩] := ⟨by kernel_rfl, by kernel_rfl, by omega⟩
theorem ZaJ : SlShape Tryz.prog 37 5 1 [.int .u8 0] := ⟨by kernel_rfl, by kernel_rfl, by omega⟩
theorem Z3k : (Tryz.prog.info? 50).map (·.size) = some 4 := by kernel_rfl
theorem Z4v : (Tryz.prog.info? 32).map (·.size) = some 1 := by kernel_rfl
theorem Zq : (Tryz.prog.info? 42).map (·.size) = some 8 := by kernel_rfl
theorem Z6j : (Tryz.prog.info? 46).map (·.size) = some 9 := by kernel_rfl
theorem Z5B : (Tryz.prog.info? 78).map (·.size) = some 9 := by kernel_rfl
theorem Z3j : (Tryz.prog.info? 76).map (·.size) = some 3 := by kernel_rfl
theorem Zu : (Tryz.prog.info? 31).map (·.size) = some 14 := by kernel_rfl
theorem Z1h : (Tryz.prog.info? 94).map (·.size) = some 3 := by kernel_rfl
theorem Z4G : (Tryz.prog.info? 4).map (·.size) = some 1 := by kernel_rfl
theorem Z3F : (Tryz.prog.info? 3).map (·.size) = some 1 := by kernel_rfl
theorem Z81 : (Tryz.prog.info? 59).map (·.size) = some 0 := by kernel_rfl
theorem Zb8 : (Tryz.prog.info? 23).map (·.size) = some 1 := by kernel_rfl
theorem Z3M : (Tryz.prog.info? 28).map (·.size) = some 1 := by kernel_rfl
theorem ZbU : (Tryz.prog.info? 26).map (·.size) = some 1 := by kernel_rfl
theorem Z9n : (Tryz.prog.info? 29).map (·.size) = some 1 := by kernel_rfl
theorem Z72 : (Tryz.prog.info? 27).map (·.size) = some 1 := by kernel_rfl
theorem Z4g : (Tryz.prog.info? 55).map (·.size) = some 1 := by kernel_rfl
theorem Z6J : (Tryz.prog.info? 25).map (·.size) = some 1 := by kernel_rfl
theorem Z74 : (Tryz.prog.info? 24).map (·.size) = some 1 := by kernel_rfl
theorem Z5w : (Tryz.prog.info? 9).map (·.size) = some 1 := by kernel_rfl
theorem Z1w : szOf Tryz.prog 50 = some (some 4) := by kernel_rfl
theorem Z2H : szOf Tryz.prog 32 = some none := by kernel_rfl
theorem Za : szOf Tryz.prog 42 = some (some 8) := by kernel_rfl
theorem Z4U : szOf Tryz.prog 46 = some (some 9) := by kernel_rfl
theorem Z3U : szOf Tryz.prog 78 = some (some 9) := by kernel_rfl
theorem Z2V : szOf Tryz.prog 76 = some (some 3) := by kernel_rfl
theorem Zc : szOf Tryz.prog 31 = some (some 14) := by kernel_rfl
theorem Z15 : szOf Tryz.prog 94 = some (some 3) := by kernel_rfl
theorem Z4n : szOf Tryz.prog 40 = some (some 3) := by kernel_rfl
theorem Z3r : szOf Tryz.prog 4 = some none := by kernel_rfl
theorem Zt : szOf Tryz.prog 3 = some none := by kernel_rfl
theorem Z5Z : szOf Tryz.prog 2 = some none := by kernel_rfl
theorem Z2A : szOf Tryz.prog 23 = some none := by kernel_rfl
theorem Zh : szOf Tryz.prog 28 = some none := by kernel_rfl
theorem Z1Y : szOf Tryz.prog 26 = some none := by kernel_rfl
theorem Z1S : szOf Tryz.prog 29 = some none := by kernel_rfl
theorem ZR : szOf Tryz.prog 27 = some none := by kernel_rfl
theorem ZA : szOf Tryz.prog 55 = some none := by kernel_rfl
theorem Z1m : szOf Tryz.prog 25 = some none := by kernel_rfl
theorem Z2m : szOf Tryz.prog 24 = some none := by kernel_rfl
theorem Z9 : szOf Tryz.prog 9 = some none := by kernel_rfl
theorem Zin : szOf Tryz.prog 5 = some none := by kernel_rfl
theorem Zal : Tryz.prog.underlying 4 = some .bool := by kernel_rfl
theorem Zi0 : Tryz.prog.underlying 2 = some (.int .i64) := by kernel_rfl
theorem Zs : Tryz.prog.underlying 100 = some (.map 9 98) := by kernel_rfl
theorem Z1n : Tryz.prog.underlying 236 = some (.map 9 3) := by kernel_rfl
theorem Z2B : Tryz.prog.underlying 23 = some (.slice 50) := by kernel_rfl
theorem Zl : Tryz.prog.underlying 28 = some (.slice 42) := by kernel_rfl
theorem Z2h : Tryz.prog.underlying 26 = some (.slice 46) := by kernel_rfl
theorem Z2b : Tryz.prog.underlying 29 = some (.slice 78) := by kernel_rfl
theorem Z1Q : Tryz.prog.underlying 27 = some (.slice 76) := by kernel_rfl
theorem Z16 : Tryz.prog.underlying 55 = some (.slice 94) := by kernel_rfl
theorem Z1t : Tryz.prog.underlying 25 = some (.slice 28) := by kernel_rfl
theorem ZX : Tryz.prog.underlying 24 = some (.slice 9) := by kernel_rfl
theorem Z4a : Tryz.prog.underlying 37 = some (.slice 5) := by kernel_rfl
theorem Zv : Tryz.prog.underlying 9 = some .string := by kernel_rfl
theorem ZaY : Tryz.prog.underlying 5 = some (.int .u8) := by kernel_rfl
theorem Z6C : zeroOf Tryz.prog 50 = some (.agg #[.string ⟨#[]⟩, .int .i64 0, .bool false, .bool false]) := by kernel_rfl
theorem ZdN : zeroOf Tryz.prog 32 = some (.int .i64 0) := by kernel_rfl
theorem Z13 : zeroOf Tryz.prog 42 = some (.agg #[.int .i64 0, .int .i64 0, .int .i64 0, .string ⟨#[]⟩, .string ⟨#[]⟩, .string ⟨#[]⟩, .int .i64 0, .slice none 0 0]) := by kernel_rfl
theorem Z7P : zeroOf Tryz.prog 46 = some (.agg #[.bool false, .int .i64 0, .int .i64 0, .int .i64 0, .string ⟨#[]⟩, .string ⟨#[]⟩, .string ⟨#[]⟩, .int .i64 0, .slice none 0 0]) := by kernel_rfl
theorem Z6O : zeroOf Tryz.prog 78 = some (.agg #[.int .i64 0, .int .i64 0, .int .i64 0, .string ⟨#[]⟩, .string ⟨#[]⟩, .string ⟨#[]⟩, .int .i64 0, .slice none 0 0, .bool false]) := by kernel_rfl
theorem Z45 : zeroOf Tryz.prog 76 = some (.agg #[.string ⟨#[]⟩, .string ⟨#[]⟩, .slice none 0 0]) := by kernel_rfl
theorem Z1o : zeroOf Tryz.prog 31 = some (.agg #[.int .i64 0, .string ⟨#[]⟩, .string ⟨#[]⟩, .slice none 0 0, .slice none 0 0, .slice none 0 0, .slice none 0 0, .slice none 0 0, .slice none 0 0, .slice none 0 0, .slice none 0 0, .int .i64 0, .slice none 0 0, .bool false]) := by kernel_rfl
theorem Z2F : zeroOf Tryz.prog 94 = some (.agg #[.int .i64 0, .string ⟨#[]⟩, .int .i64 0]) := by kernel_rfl
theorem Z5z : zeroOf Tryz.prog 98 = some (.nilFunc) := by kernel_rfl
theorem Zhu : zeroOf Tryz.prog 3 = some (.int .i64 0) := by kernel_rfl
theorem Z62 : zeroOf Tryz.prog 59 = some (.agg #[]) := by kernel_rfl
theorem hmx : Tryz.prog.follows .mixedOrders = true := by kernel_rfl
end Go.Proofs.YtbedigkncjbggaaGreatDoor
