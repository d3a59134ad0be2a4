/- Lemmas, part 2 of 39. No condition. -/
import Derived.Test.YtcondkihpmmnnaaGreatDoorUniqueP01
import Derived.Lib.Strings
namespace Go.Proofs.YtcondkihpmmnnaaGreatDoor
structure Tp where
 st:Int
 out:ByteArray
 deriving DecidableEq
structure St where
 a:Nat
 b:Nat
 c:Nat
 d:Nat
 deriving DecidableEq
structure Ar where
 fr:Int
 to:Int
 set:St
 out:ByteArray
 cp:Bool
 deriving DecidableEq
structure Fs where
 n:Int
 starts:List Tp
 ends:List Tp
 arcs:List Ar
def St.w (s:St) (i:Nat):Nat:=if i = 0 then s.a else if i = 1 then s.b else if i = 2 then s.c else if i = 3 then s.d else 0
def St.m (s:St) (b:Nat):Bool:=(s.w (b / 64)).testBit (b % 64)
def Ar.put (x:Ar) (b:UInt8):List UInt8:=x.out.data.toList ++ if x.cp then [b] else []
inductive Way (arcs:List Ar):Int→List UInt8→List UInt8→Int→Prop
 | nil (s:Int):Way arcs s [] [] s
 | cons {s z:Int} {b:UInt8} {w o:List UInt8} (x:Ar) (hx:x∈arcs) (hs:x.fr = s) (hb:x.set.m b.toNat = true) (h:Way arcs x.to w o z):Way arcs s (b :: w) (x.put b ++ o) z
def Rel (t:Fs) (w o:List UInt8):Prop :=
 ∃ x∈t.starts,∃ z∈t.ends,∃ o',Way t.arcs x.st w o' z.st∧o = x.out.data.toList ++ o' ++ z.out.data.toList
section
variable {arcs:List Ar}
theorem Way.app {s z y:Int} {w o w' o':List UInt8} (h:Way arcs s w o z) (k:Way arcs z w' o' y):Way arcs s (w ++ w') (o ++ o') y:=by
 induction h with
 | nil s => exact k
 | cons x hx hs hb _ ih =>
  rw [List.cons_append,List.append_assoc]
  exact .cons x hx hs hb (ih k)
theorem Way.nil_iff {s z:Int} {o:List UInt8}:Way arcs s [] o z↔o = []∧z = s :=
 ⟨fun h => by cases h; exact ⟨rfl,rfl⟩,fun ⟨h1,h2⟩ => by subst h1; subst h2; exact .nil _⟩
theorem Way.cons_iff {s z:Int} {b:UInt8} {w o:List UInt8}:Way arcs s (b :: w) o z↔∃ x∈arcs,x.fr = s∧x.set.m b.toNat = true∧∃ o',Way arcs x.to w o' z∧o = x.put b ++ o' :=
 ⟨fun h => by cases h with | cons x hx hs hb h => exact ⟨x,hx,hs,hb,_,h,rfl⟩,fun ⟨x,hx,hs,hb,o',h,ho⟩ => by subst ho; exact .cons x hx hs hb h⟩
theorem Way.split:∀ {w:List UInt8} {w':List UInt8} {s z:Int} {o:List UInt8},Way arcs s (w ++ w') o z→∃ y o1 o2,Way arcs s w o1 y∧Way arcs y w' o2 z∧o = o1 ++ o2
 | [],w',s,z,o,h => ⟨s,[],o,.nil s,h,rfl⟩
 | b :: w,w',s,z,o,h => by
  obtain ⟨x,hx,hs,hb,o',h',rfl⟩:=Way.cons_iff.1 h
  obtain ⟨y,o1,o2,h1,h2,rfl⟩:=Way.split h'
  exact ⟨y,x.put b ++ o1,o2,.cons x hx hs hb h1,h2,by rw [List.append_assoc]⟩
theorem Way.snoc_iff {s z:Int} {b:UInt8} {w o:List UInt8}:Way arcs s (w ++ [b]) o z↔∃ y o1,Way arcs s w o1 y∧∃ x∈arcs,x.fr = y∧x.set.m b.toNat = true∧x.to = z∧o = o1 ++ x.put b:=by
 constructor
 ·intro h
  obtain ⟨y,o1,o2,h1,h2,rfl⟩:=h.split
  obtain ⟨x,hx,hs,hb,o',h',rfl⟩:=Way.cons_iff.1 h2
  obtain ⟨rfl,rfl⟩:=Way.nil_iff.1 h'
  exact ⟨y,o1,h1,x,hx,hs,hb,rfl,by simp⟩
 ·rintro ⟨y,o1,h1,x,hx,hs,hb,hz,rfl⟩
  have:Way arcs y [b] (x.put b ++ []) z:=.cons x hx hs hb (by rw [hz]; exact .nil _)
  rw [List.append_nil] at this
  exact h1.app this
theorem Way.mono {arcs':List Ar} (h:∀ x∈arcs,x∈arcs') {s z:Int} {w o:List UInt8} (k:Way arcs s w o z):Way arcs' s w o z:=by
 induction k with
 | nil s => exact .nil s
 | cons x hx hs hb _ ih => exact .cons x (h x hx) hs hb ih
end
def Alike (t u:Fs):Prop:=t.n = u.n∧(∀ x,x∈t.starts↔x∈u.starts)∧(∀ x,x∈t.ends↔x∈u.ends)∧(∀ x,x∈t.arcs↔x∈u.arcs)
theorem Alike.symm {t u:Fs} (h:Alike t u):Alike u t:=⟨h.1.symm,fun x => (h.2.1 x).symm,fun x => (h.2.2.1 x).symm,fun x => (h.2.2.2 x).symm⟩
theorem Alike.rel' {t u:Fs} (h:Alike t u) {w o:List UInt8} (k:Rel t w o):Rel u w o:=by
 obtain ⟨x,hx,z,hz,o',hw,ho⟩:=k
 exact ⟨x,(h.2.1 x).1 hx,z,(h.2.2.1 z).1 hz,o',hw.mono fun y hy => (h.2.2.2 y).1 hy,ho⟩
theorem Alike.rel {t u:Fs} (h:Alike t u) (w o:List UInt8):Rel t w o↔Rel u w o:=⟨h.rel',h.symm.rel'⟩
def stOk (n s:Int):Prop:=0≤s∧s < n
def Right (t:Fs):Prop:=0≤t.n∧(∀ x∈t.starts,stOk t.n x.st)∧(∀ x∈t.ends,stOk t.n x.st)∧(∀ x∈t.arcs,stOk t.n x.fr∧stOk t.n x.to)
theorem Way.ok {t:Fs} (h:Right t) {s z:Int} {w o:List UInt8} (k:Way t.arcs s w o z) (hs:stOk t.n s):stOk t.n z:=by
 induction k with
 | nil s => exact hs
 | cons x hx _ _ _ ih => exact ih (h.2.2.2 x hx).2
def St.both (s t:St):St:=⟨s.a &&& t.a,s.b &&& t.b,s.c &&& t.c,s.d &&& t.d⟩
def St.none:St:=⟨0,0,0,0⟩
theorem St.both_m (s t:St) (b:Nat):(s.both t).m b = (s.m b && t.m b):=by
 unfold St.m St.w St.both
 split
 ·exact Nat.testBit_and ..
 split
 ·exact Nat.testBit_and ..
 split
 ·exact Nat.testBit_and ..
 split
 ·exact Nat.testBit_and ..
 ·simp
theorem St.none_m (b:Nat):St.none.m b = false:=by
 unfold St.m St.w St.none
 split
 ·exact Nat.zero_testBit _
 split
 ·exact Nat.zero_testBit _
 split
 ·exact Nat.zero_testBit _
 split <;> exact Nat.zero_testBit _
structure Chain (a b c:Fs):Prop where
 starts:∀ x,x∈c.starts↔∃ q∈a.starts,∃ r∈b.starts,∃ v o,Way b.arcs r.st q.out.data.toList o v∧x.st = q.st * b.n + v∧x.out.data.toList = r.out.data.toList ++ o
 ends:∀ x,x∈c.ends↔∃ p∈a.ends,∃ y,stOk b.n y∧∃ v o,Way b.arcs y p.out.data.toList o v∧∃ z∈b.ends,z.st = v∧x.st = p.st * b.n + y∧x.out.data.toList = o ++ z.out.data.toList
 arcs:∀ e,e∈c.arcs↔∃ x∈a.arcs,∃ y,stOk b.n y∧∃ v o,Way b.arcs y x.out.data.toList o v∧e.fr = x.fr * b.n + y ∧
  ((x.cp = false∧e.to = x.to * b.n + v∧e.set = x.set∧e.out.data.toList = o∧e.cp = false) ∨
   (x.cp = true∧∃ u∈b.arcs,u.fr = v∧x.set.both u.set≠St.none∧e.to = x.to * b.n + u.to∧e.set = x.set.both u.set∧e.out.data.toList = o ++ u.out.data.toList∧e.cp = u.cp))
theorem pair_inj {n p q y z:Int} (hy:stOk n y) (hz:stOk n z) (h:p * n + y = q * n + z):p = q∧y = z:=by
 have hn:0 < n:=by unfold stOk at hy; omega
 have e:(p - q) * n = z - y:=by rw [Int.sub_mul]; omega
 have hpq:p - q = 0:=by
  rcases Int.lt_trichotomy (p - q) 0 with h1 | h1 | h1
  ·have:(p - q) * n≤-1 * n:=Int.mul_le_mul_of_nonneg_right (by omega) (by omega)
   unfold stOk at hy hz; omega
  ·exact h1
  ·have:1 * n≤(p - q) * n:=Int.mul_le_mul_of_nonneg_right (by omega) (by omega)
   unfold stOk at hy hz; omega
 rw [hpq] at e
 omega
theorem way_of_chain {a b c:Fs} (ha:Right a) (hb:Right b) (h:Chain a b c):∀ (w o:List UInt8) (p y p' y':Int),stOk a.n p→stOk b.n y→stOk b.n y' →
    (Way c.arcs (p * b.n + y) w o (p' * b.n + y')↔∃ m,Way a.arcs p w m p'∧Way b.arcs y m o y'):=by
 intro w
 induction w with
 | nil =>
  intro o p y p' y' hp hy hy'
  constructor
  ·intro k
   obtain ⟨rfl,e⟩:=Way.nil_iff.1 k
   obtain ⟨rfl,rfl⟩:=pair_inj hy' hy e
   exact ⟨[],.nil _,.nil _⟩
  ·rintro ⟨m,k1,k2⟩
   obtain ⟨rfl,rfl⟩:=Way.nil_iff.1 k1
   obtain ⟨rfl,rfl⟩:=Way.nil_iff.1 k2
   exact .nil _
 | cons d w ih =>
  intro o p y p' y' hp hy hy'
  constructor
  ·intro k
   obtain ⟨e,he,hf,hd,o',k',rfl⟩:=Way.cons_iff.1 k
   obtain ⟨x,hx,y1,hy1,v,o1,hv,efr,hcase⟩:=(h.arcs e).1 he
   obtain ⟨rfl,rfl⟩:=pair_inj hy1 hy (efr.symm.trans hf)
   have hvok:=hv.ok hb hy1
   rcases hcase with ⟨hcp,hto,hset,hout,hec⟩ | ⟨hcp,u,hu,huf,hne,hto,hset,hout,hec⟩
   ·rw [hto] at k'
    obtain ⟨m,k1,k2⟩:=(ih o' x.to v p' y' (ha.2.2.2 x hx).2 hvok hy').1 k'
    refine ⟨x.put d ++ m,.cons x hx rfl (by rw [← hset]; exact hd) k1,?_⟩
    unfold Ar.put
    rw [hcp,hec,hout]
    simpa using hv.app k2
   ·rw [hto] at k'
    obtain ⟨m,k1,k2⟩:=(ih o' x.to u.to p' y' (ha.2.2.2 x hx).2 (hb.2.2.2 u hu).2 hy').1 k'
    rw [hset,St.both_m,Bool.and_eq_true] at hd
    refine ⟨x.put d ++ m,.cons x hx rfl hd.1 k1,?_⟩
    unfold Ar.put
    rw [hcp,hec,hout]
    have:=hv.app (Way.cons (b:=d) u hu huf hd.2 k2)
    unfold Ar.put at this
    simpa using this
  ·rintro ⟨m,k1,k2⟩
   obtain ⟨x,hx,hf,hd,m',k1',rfl⟩:=Way.cons_iff.1 k1
   unfold Ar.put at k2
   rcases hcp:x.cp with _ | _
   ·rw [hcp] at k2
    simp at k2
    obtain ⟨v,o1,o2,hv,hv2,rfl⟩:=k2.split
    have hvok:=hv.ok hb hy
    have k:=(ih o2 x.to v p' y' (ha.2.2.2 x hx).2 hvok hy').2 ⟨m',k1',hv2⟩
    have he:=(h.arcs ⟨x.fr * b.n + y,x.to * b.n + v,x.set,⟨o1.toArray⟩,false⟩).2 ⟨x,hx,y,hy,v,o1,hv,rfl,.inl ⟨hcp,rfl,rfl,rfl,rfl⟩⟩
    have:=Way.cons (b:=d) _ he (by rw [hf]) hd k
    simpa [Ar.put] using this
   ·rw [hcp] at k2
    simp at k2
    obtain ⟨v,o1,o2,hv,hv2,rfl⟩:=k2.split
    obtain ⟨u,hu,huf,hud,o3,hu3,rfl⟩:=Way.cons_iff.1 hv2
    have k:=(ih o3 x.to u.to p' y' (ha.2.2.2 x hx).2 (hb.2.2.2 u hu).2 hy').2 ⟨m',k1',hu3⟩
    have hm:(x.set.both u.set).m d.toNat = true:=by rw [St.both_m,hd,hud]; rfl
    have hne:x.set.both u.set≠St.none:=by
     intro e
     rw [e,St.none_m] at hm
     cases hm
    have he:=(h.arcs ⟨x.fr * b.n + y,x.to * b.n + u.to,x.set.both u.set,⟨(o1 ++ u.out.data.toList).toArray⟩,u.cp⟩).2 ⟨x,hx,y,hy,v,o1,hv,rfl,.inr ⟨hcp,u,hu,huf,hne,rfl,rfl,rfl,rfl⟩⟩
    have:=Way.cons (b:=d) _ he (by rw [hf]) hm k
    simpa [Ar.put] using this
theorem rel_of_chain {a b c:Fs} (ha:Right a) (hb:Right b) (h:Chain a b c) (w o:List UInt8):Rel c w o↔∃ m,Rel a w m∧Rel b m o:=by
 constructor
 ·rintro ⟨x,hx,z,hz,o',k,rfl⟩
  obtain ⟨q,hq,r,hr,v,o1,hv,es,eo⟩:=(h.starts x).1 hx
  obtain ⟨p,hp,y,hy,v2,o2,hv2,z2,hz2,ez2,et,eto⟩:=(h.ends z).1 hz
  rw [es,et] at k
  obtain ⟨m,k1,k2⟩:=(way_of_chain ha hb h w o' q.st v p.st y (ha.2.1 q hq) (hv.ok hb (hb.2.1 r hr)) hy).1 k
  refine ⟨q.out.data.toList ++ m ++ p.out.data.toList,⟨q,hq,p,hp,m,k1,rfl⟩,r,hr,z2,hz2,o1 ++ o' ++ o2,?_,?_⟩
  ·rw [ez2]; exact (hv.app k2).app hv2
  ·rw [eo,eto]; simp
 ·rintro ⟨m,⟨q,hq,p,hp,m',k1,rfl⟩,r,hr,z,hz,o',k2,rfl⟩
  obtain ⟨y,o12,o3,k12,k3,rfl⟩:=k2.split
  obtain ⟨v,o1,o2,kq,km,rfl⟩:=k12.split
  have hv:=kq.ok hb (hb.2.1 r hr)
  have hy:=km.ok hb hv
  have k:=(way_of_chain ha hb h w o2 q.st v p.st y (ha.2.1 q hq) hv hy).2 ⟨m',k1,km⟩
  refine ⟨⟨q.st * b.n + v,⟨(r.out.data.toList ++ o1).toArray⟩⟩,(h.starts _).2 ⟨q,hq,r,hr,v,o1,kq,rfl,rfl⟩,
   ⟨p.st * b.n + y,⟨(o3 ++ z.out.data.toList).toArray⟩⟩,(h.ends _).2 ⟨p,hp,y,hy,z.st,o3,k3,z,hz,rfl,rfl,rfl⟩,o2,k,?_⟩
  simp
end Go.Proofs.YtcondkihpmmnnaaGreatDoor
namespace Go.Proofs.YtcondkihpmmnnaaGreatDoor
open Go.RowKit Go.Sort Go.Maps Go.WideMaps
theorem spot_none {w:World} {a:Addr} {v:Value} (h:w.cell? a = some v):a = ⟨a.block,a.off,none⟩:=by
 obtain ⟨b,o,s⟩:=a
 cases s with
 | none => rfl
 | some x =>
  unfold World.cell? at h
  simp at h
  split at h <;> cases h
theorem add_mk (g o j:Nat):(⟨g,o,none⟩:Addr).add j = ⟨g,o + j,none⟩:=by
 unfold Addr.add
 split
 ·subst_vars; rfl
 ·rfl
theorem cell_at {w:World} {B n:Nat} {A:Option Addr} {α:Type} {enc:α→Value} {L:List α} {d:α} (HR:Reads w B 1 A n (L.map enc)) (k:Nat) (hk:k < n) :
    ∃ g o,A = some ⟨g,o,none⟩∧g < B∧w.cell? ⟨g,o + k,none⟩ = some (enc (L.getD k d)):=by
 have hn:=HR.1
 simp at hn
 have hkl:k < L.length:=by omega
 obtain ⟨ad,e,hb,hc⟩:=HR.2 (by omega)
 have h0:=hc 0 _ (show (L.map enc)[0]? = some (enc (L[0]'(by omega))) by simp [show 0 < L.length by omega])
 have h00:ad.add 0 = ad:=by simp [Addr.add]
 rw [h00] at h0
 have es:=spot_none h0
 have c1:=hc k _ (show (L.map enc)[k]? = some (enc L[k]) by simp [hkl])
 rw [es,add_mk] at c1
 have e2:L.getD k d = L[k]:=by rw [List.getD_eq_getElem?_getD,List.getElem?_eq_getElem hkl]; rfl
 rw [e2]
 exact ⟨ad.block,ad.off,by rw [e,← es],hb,c1⟩
def Rows2 (w:World) (B:Nat) (A:Option Addr) (n:Nat) (rows:List (List Value)):Prop :=
 ∃ hs:List (Option Addr × Nat),hs.length = rows.length ∧
  Reads w B 1 A n ((List.zip hs rows).map fun x => Value.slice x.1.1 x.2.length x.1.2) ∧
  ∀ x∈List.zip hs rows,Reads w B 1 x.1.1 x.2.length x.2∧x.2.length≤x.1.2∧x.1.2≤maxLen
theorem Rows2.len {w:World} {B n:Nat} {A:Option Addr} {rows:List (List Value)} (h:Rows2 w B A n rows):rows.length = n:=by
 obtain ⟨hs,hl,hR,_⟩:=h
 have:=hR.1
 simp at this
 omega
theorem Rows2.keep {w w':World} {B n:Nat} {A:Option Addr} {rows:List (List Value)} (h:Rows2 w B A n rows) (hk:∀ p:Addr,p.block < B→w'.cell? p = w.cell? p):Rows2 w' B A n rows:=by
 obtain ⟨hs,hl,hR,hx⟩:=h
 exact ⟨hs,hl,hR.keep hk,fun x hm => ⟨(hx x hm).1.keep hk,(hx x hm).2⟩⟩
theorem Rows2.below {w w':World} {B n:Nat} {A:Option Addr} {rows:List (List Value)} (h:Rows2 w B A n rows) (hb:Below B w w'):Rows2 w' B A n rows:=h.keep fun _ hp => hb.cell hp
theorem Rows2.more {w:World} {B B' n:Nat} {A:Option Addr} {rows:List (List Value)} (h:Rows2 w B A n rows) (hB:B≤B'):Rows2 w B' A n rows:=by
 obtain ⟨hs,hl,hR,hx⟩:=h
 exact ⟨hs,hl,hR.more hB,fun x hm => ⟨(hx x hm).1.more hB,(hx x hm).2⟩⟩
theorem Rows2.at_ {w:World} {B n:Nat} {A:Option Addr} {rows:List (List Value)} (h:Rows2 w B A n rows) (k:Nat) (hk:k < n) :
    ∃ g o A' c,A = some ⟨g,o,none⟩∧g < B∧w.cell? ⟨g,o + k,none⟩ = some (.slice A' (rows.getD k []).length c)∧Reads w B 1 A' (rows.getD k []).length (rows.getD k [])∧(rows.getD k []).length≤c∧c≤maxLen:=by
 have hn:=h.len
 obtain ⟨hs,hl,hR,hx⟩:=h
 obtain ⟨g,o,e,hg,hc⟩:=cell_at (d:=((none,0),[])) hR k hk
 have hz:(List.zip hs rows).getD k ((none,0),[]) = (hs[k]'(by omega),rows[k]'(by omega)):=by
  rw [List.getD_eq_getElem?_getD,List.getElem?_eq_getElem (by simp; omega)]
  simp
 rw [hz] at hc
 have hr:rows.getD k [] = rows[k]'(by omega):=by
  rw [List.getD_eq_getElem?_getD,List.getElem?_eq_getElem (by omega)]; rfl
 have hm:(hs[k]'(by omega),rows[k]'(by omega))∈List.zip hs rows:=by
  rw [List.mem_iff_getElem]
  exact ⟨k,by simp; omega,by simp⟩
 rw [hr]
 exact ⟨g,o,_,_,e,hg,hc,(hx _ hm).1,(hx _ hm).2.1,(hx _ hm).2.2⟩
structure SeqM where
 front:ByteArray
 next:List (List Int)
 outs:List (List ByteArray)
 ends:List Bool
 tail:List ByteArray
def SeqAt (w:World) (B:Nat) (q:SeqM) (v:Value):Prop :=
 ∃ A1 c1 A2 c2 A3 c3 A4 c4,v = .agg #[.string q.front,.slice A1 q.next.length c1,.slice A2 q.outs.length c2,.slice A3 q.ends.length c3,.slice A4 q.tail.length c4] ∧
  q.front.size≤maxLen∧q.next.length≤c1∧q.outs.length≤c2∧q.ends.length≤c3∧q.tail.length≤c4∧c1≤maxLen∧c2≤maxLen∧c3≤maxLen∧c4≤maxLen ∧
  Rows2 w B A1 q.next.length (q.next.map fun r => r.map (Value.int .i64))∧(∀ r∈q.next,∀ z∈r,-9223372036854775808≤z∧z≤9223372036854775807) ∧
  Rows2 w B A2 q.outs.length (q.outs.map fun r => r.map Value.string)∧(∀ r∈q.outs,∀ s∈r,s.size≤maxLen) ∧
  Reads w B 1 A3 q.ends.length (q.ends.map Value.bool) ∧
  Reads w B 1 A4 q.tail.length (q.tail.map Value.string)∧(∀ s∈q.tail,s.size≤maxLen)
def entB (z:Int) (o:ByteArray) (n:Nat):Bool:=decide (-1≤z) && decide (z < (n:Int)) && decide (o.size≤4096) && (decide (z≠-1) || decide (o.size = 0))
def rowB (Z:List Int) (O:List ByteArray) (n:Nat):Bool :=
 decide (Z.length = 256) && decide (O.length = 256) && (List.range 256).all fun b => entB (Z.getD b 0) (O.getD b ByteArray.empty) n
theorem range_all_false {p:Nat→Bool} {n k:Nat} (hk:k < n) (h:p k = false):(List.range n).all p = false:=by
 rw [List.all_eq_false]
 exact ⟨k,List.mem_range.2 hk,by simp [h]⟩
end Go.Proofs.YtcondkihpmmnnaaGreatDoor
namespace Go.Proofs.YtcondkihpmmnnaaGreatDoor
def Useful (t:Fs) (s:Int):Prop :=
 stOk t.n s∧(∃ x∈t.starts,∃ w o,Way t.arcs x.st w o s)∧(∃ z∈t.ends,∃ w o,Way t.arcs s w o z.st)
structure Trims (t u:Fs) (f:Int→Int):Prop where
 nn:0≤u.n
 use:∀ s,stOk t.n s→(0≤f s↔Useful t s)
 lt:∀ s,stOk t.n s→f s < u.n
 inj:∀ s z,stOk t.n s→stOk t.n z→0≤f s→f s = f z→s = z
 sur:∀ k,stOk u.n k→∃ s,stOk t.n s∧f s = k
 starts:∀ y,y∈u.starts↔∃ x∈t.starts,0≤f x.st∧y = ⟨f x.st,x.out⟩
 ends:∀ y,y∈u.ends↔∃ x∈t.ends,0≤f x.st∧y = ⟨f x.st,x.out⟩
 arcs:∀ e,e∈u.arcs↔∃ x∈t.arcs,0≤f x.fr∧0≤f x.to∧e = ⟨f x.fr,f x.to,x.set,x.out,x.cp⟩
section
variable {t u:Fs} {f:Int→Int}
theorem Useful.ahead {s z:Int} {w o:List UInt8} (hr:Right t) (hs:Useful t s) (k:Way t.arcs s w o z) (hz:∃ y∈t.ends,∃ w o,Way t.arcs z w o y.st):Useful t z:=by
 obtain ⟨hok,⟨x,hx,w1,o1,h1⟩,_⟩:=hs
 exact ⟨k.ok hr hok,⟨x,hx,_,_,h1.app k⟩,hz⟩
theorem Trims.way (hr:Right t) (h:Trims t u f) {s z:Int} {w o:List UInt8} (k:Way t.arcs s w o z) (hs:Useful t s) (hz:Useful t z):Way u.arcs (f s) w o (f z):=by
 induction k with
 | nil s => exact .nil _
 | @cons s z b w o x hx hxs hb k ih =>
  subst hxs
  have hto:Useful t x.to:=by
   refine hs.ahead hr (w:=[b]) (o:=x.put b ++ []) (.cons x hx rfl hb (.nil _)) ?_
   obtain ⟨_,_,y,hy,w2,o2,h2⟩:=hz
   exact ⟨y,hy,_,_,k.app h2⟩
  have e1:=(h.use x.fr (hr.2.2.2 x hx).1).2 hs
  have e2:=(h.use x.to (hr.2.2.2 x hx).2).2 hto
  exact Way.cons ⟨f x.fr,f x.to,x.set,x.out,x.cp⟩ ((h.arcs _).2 ⟨x,hx,e1,e2,rfl⟩) rfl hb (ih hto hz)
theorem Trims.back (hr:Right t) (h:Trims t u f):∀ {w:List UInt8} {s k:Int} {o:List UInt8},Way u.arcs (f s) w o k→stOk t.n s→0≤f s→∃ z,Way t.arcs s w o z∧f z = k∧stOk t.n z∧0≤f z
 | [],s,k,o,hw,hs,h0 => by
  obtain ⟨rfl,rfl⟩:=Way.nil_iff.1 hw
  exact ⟨s,.nil _,rfl,hs,h0⟩
 | b :: w,s,k,o,hw,hs,h0 => by
  obtain ⟨e,he,hf,hb,o',h',rfl⟩:=Way.cons_iff.1 hw
  obtain ⟨x,hx,e1,e2,rfl⟩:=(h.arcs e).1 he
  have hxs:x.fr = s:=h.inj _ _ (hr.2.2.2 x hx).1 hs e1 hf
  obtain ⟨z,hz,hfz,hzo,hz0⟩:=Trims.back hr h h' (hr.2.2.2 x hx).2 e2
  exact ⟨z,.cons x hx hxs hb hz,hfz,hzo,hz0⟩
theorem Trims.rel (hr:Right t) (h:Trims t u f) (w o:List UInt8):Rel u w o↔Rel t w o:=by
 constructor
 ·rintro ⟨x,hx,z,hz,o',k,rfl⟩
  obtain ⟨x0,hx0,e1,rfl⟩:=(h.starts x).1 hx
  obtain ⟨z0,hz0,e2,rfl⟩:=(h.ends z).1 hz
  obtain ⟨z',hz',hf,hzo,hzp⟩:=h.back hr k (hr.2.1 x0 hx0) e1
  have:z' = z0.st:=h.inj _ _ hzo (hr.2.2.1 z0 hz0) hzp hf
  subst this
  exact ⟨x0,hx0,z0,hz0,o',hz',rfl⟩
 ·rintro ⟨x,hx,z,hz,o',k,rfl⟩
  have ux:Useful t x.st:=⟨hr.2.1 x hx,⟨x,hx,_,_,.nil _⟩,z,hz,_,_,k⟩
  have uz:Useful t z.st:=⟨hr.2.2.1 z hz,⟨x,hx,_,_,k⟩,z,hz,_,_,.nil _⟩
  exact ⟨⟨f x.st,x.out⟩,(h.starts _).2 ⟨x,hx,(h.use _ ux.1).2 ux,rfl⟩,⟨f z.st,z.out⟩,(h.ends _).2 ⟨z,hz,(h.use _ uz.1).2 uz,rfl⟩,o',h.way hr k ux uz,rfl⟩
theorem Trims.right (hr:Right t) (h:Trims t u f):Right u:=by
 refine ⟨h.nn,fun y hy => ?_,fun y hy => ?_,fun y hy => ?_⟩
 ·obtain ⟨x,hx,e,rfl⟩:=(h.starts y).1 hy
  exact ⟨e,h.lt _ (hr.2.1 x hx)⟩
 ·obtain ⟨x,hx,e,rfl⟩:=(h.ends y).1 hy
  exact ⟨e,h.lt _ (hr.2.2.1 x hx)⟩
 ·obtain ⟨x,hx,e1,e2,rfl⟩:=(h.arcs y).1 hy
  exact ⟨⟨e1,h.lt _ (hr.2.2.2 x hx).1⟩,e2,h.lt _ (hr.2.2.2 x hx).2⟩
theorem Trims.useful (hr:Right t) (h:Trims t u f) (k:Int) (hk:stOk u.n k):Useful u k:=by
 obtain ⟨s,hs,rfl⟩:=h.sur k hk
 have us:=(h.use s hs).1 hk.1
 obtain ⟨_,⟨x,hx,w1,o1,h1⟩,z,hz,w2,o2,h2⟩:=id us
 have ux:Useful t x.st:=⟨hr.2.1 x hx,⟨x,hx,_,_,.nil _⟩,z,hz,_,_,h1.app h2⟩
 have uz:Useful t z.st:=⟨hr.2.2.1 z hz,⟨x,hx,_,_,h1.app h2⟩,z,hz,_,_,.nil _⟩
 exact ⟨hk,⟨⟨f x.st,x.out⟩,(h.starts _).2 ⟨x,hx,(h.use _ ux.1).2 ux,rfl⟩,_,_,h.way hr h1 ux us⟩,⟨f z.st,z.out⟩,(h.ends _).2 ⟨z,hz,(h.use _ uz.1).2 uz,rfl⟩,_,_,h.way hr h2 us uz⟩
end
def St.ofM (m:Nat→Bool):St:=⟨word m 0,word m 1,word m 2,word m 3⟩
theorem St.ofM_w (m:Nat→Bool) (i:Nat) (h:i < 4):(St.ofM m).w i = word m i:=by
 match i,h with
 | 0,_ => rfl
 | 1,_ => rfl
 | 2,_ => rfl
 | 3,_ => rfl
theorem St.ofM_m (m:Nat→Bool) (b:Nat) (h:b < 256):(St.ofM m).m b = m b:=by
 unfold St.m
 rw [St.ofM_w m _ (by omega),word_testBit,Nat.div_add_mod]
 have:b % 64 < 64:=Nat.mod_lt _ (by decide)
 simp [this]
namespace SeqM
variable (q:SeqM)
def nx (s b:Nat):Int:=(q.next.getD s []).getD b 0
def os (s b:Nat):ByteArray:=(q.outs.getD s []).getD b ByteArray.empty
def en (s:Nat):Bool:=q.ends.getD s false
def tl (s:Nat):ByteArray:=q.tail.getD s ByteArray.empty
def runL:Nat→List UInt8→Option (List UInt8)
 | s,[] => if q.en s = true then some (q.tl s).data.toList else none
 | s,b :: w => if q.nx s b.toNat < 0 then none else (runL (q.nx s b.toNat).toNat w).map ((q.os s b.toNat).data.toList ++ ·)
def run (w:List UInt8):Option (List UInt8):=if q.next.length = 0 then none else (q.runL 0 w).map (q.front.data.toList ++ ·)
end SeqM
structure Backs (q:SeqM) (t:Fs):Prop where
 n:t.n = q.next.length
 starts:∀ x,x∈t.starts↔0 < q.next.length∧x = ⟨0,q.front⟩
 ends:∀ x,x∈t.ends↔∃ s,s < q.next.length∧q.en s = true∧x = ⟨(s:Int),q.tl s⟩
 arcs:∀ e,e∈t.arcs↔∃ s b,s < q.next.length∧b < 256∧0≤q.nx s b∧e = ⟨(s:Int),q.nx s b,St.ofM (sOf [b]),q.os s b,false⟩
theorem one_m (b c:Nat) (h:c < 256):(St.ofM (sOf [b])).m c = (c == b):=by
 rw [St.ofM_m _ _ h]
 simp [sOf,List.contains_eq_mem,Bool.beq_eq_decide_eq]
theorem u8_lt (b:UInt8):b.toNat < 256:=b.toNat_lt
end Go.Proofs.YtcondkihpmmnnaaGreatDoor
