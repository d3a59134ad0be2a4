/- Lemmas, part 2 of 50. No condition. -/
import Derived.Test.YtcondkihpmmnnaaGreatDoorQ01
import Derived.Lib.Strings
import Derived.Lib.Bytealg
import Derived.Lib.Small
namespace Go.Proofs.YtcondkihpmmnnaaGreatDoor
structure Tp where
 st:Int
 out:ByteArray
 deriving DecidableEq
structure St where
 a:Nat
 b:Nat
 c:Nat
 d:Nat
 deriving DecidableEq
structure Ar where
 fr:Int
 to:Int
 set:St
 out:ByteArray
 cp:Bool
 deriving DecidableEq
structure Fs where
 n:Int
 starts:List Tp
 ends:List Tp
 arcs:List Ar
def St.w (s:St) (i:Nat):Nat:=if i = 0 then s.a else if i = 1 then s.b else if i = 2 then s.c else if i = 3 then s.d else 0
def St.m (s:St) (b:Nat):Bool:=(s.w (b / 64)).testBit (b % 64)
def Ar.put (x:Ar) (b:UInt8):List UInt8:=x.out.data.toList ++ if x.cp then [b] else []
inductive Way (arcs:List Ar):Int→List UInt8→List UInt8→Int→Prop
 | nil (s:Int):Way arcs s [] [] s
 | cons {s z:Int} {b:UInt8} {w o:List UInt8} (x:Ar) (hx:x∈arcs) (hs:x.fr = s) (hb:x.set.m b.toNat = true) (h:Way arcs x.to w o z):Way arcs s (b :: w) (x.put b ++ o) z
def Rel (t:Fs) (w o:List UInt8):Prop :=
 ∃ x∈t.starts,∃ z∈t.ends,∃ o',Way t.arcs x.st w o' z.st∧o = x.out.data.toList ++ o' ++ z.out.data.toList
section
variable {arcs:List Ar}
theorem Way.app {s z y:Int} {w o w' o':List UInt8} (h:Way arcs s w o z) (k:Way arcs z w' o' y):Way arcs s (w ++ w') (o ++ o') y:=by
 induction h with
 | nil s => exact k
 | cons x hx hs hb _ ih =>
  rw [List.cons_append,List.append_assoc]
  exact .cons x hx hs hb (ih k)
theorem Way.nil_iff {s z:Int} {o:List UInt8}:Way arcs s [] o z↔o = []∧z = s :=
 ⟨fun h => by cases h; exact ⟨rfl,rfl⟩,fun ⟨h1,h2⟩ => by subst h1; subst h2; exact .nil _⟩
theorem Way.cons_iff {s z:Int} {b:UInt8} {w o:List UInt8}:Way arcs s (b :: w) o z↔∃ x∈arcs,x.fr = s∧x.set.m b.toNat = true∧∃ o',Way arcs x.to w o' z∧o = x.put b ++ o' :=
 ⟨fun h => by cases h with | cons x hx hs hb h => exact ⟨x,hx,hs,hb,_,h,rfl⟩,fun ⟨x,hx,hs,hb,o',h,ho⟩ => by subst ho; exact .cons x hx hs hb h⟩
theorem Way.split:∀ {w:List UInt8} {w':List UInt8} {s z:Int} {o:List UInt8},Way arcs s (w ++ w') o z→∃ y o1 o2,Way arcs s w o1 y∧Way arcs y w' o2 z∧o = o1 ++ o2
 | [],w',s,z,o,h => ⟨s,[],o,.nil s,h,rfl⟩
 | b :: w,w',s,z,o,h => by
  obtain ⟨x,hx,hs,hb,o',h',rfl⟩:=Way.cons_iff.1 h
  obtain ⟨y,o1,o2,h1,h2,rfl⟩:=Way.split h'
  exact ⟨y,x.put b ++ o1,o2,.cons x hx hs hb h1,h2,by rw [List.append_assoc]⟩
theorem Way.snoc_iff {s z:Int} {b:UInt8} {w o:List UInt8}:Way arcs s (w ++ [b]) o z↔∃ y o1,Way arcs s w o1 y∧∃ x∈arcs,x.fr = y∧x.set.m b.toNat = true∧x.to = z∧o = o1 ++ x.put b:=by
 constructor
 ·intro h
  obtain ⟨y,o1,o2,h1,h2,rfl⟩:=h.split
  obtain ⟨x,hx,hs,hb,o',h',rfl⟩:=Way.cons_iff.1 h2
  obtain ⟨rfl,rfl⟩:=Way.nil_iff.1 h'
  exact ⟨y,o1,h1,x,hx,hs,hb,rfl,by simp⟩
 ·rintro ⟨y,o1,h1,x,hx,hs,hb,hz,rfl⟩
  have:Way arcs y [b] (x.put b ++ []) z:=.cons x hx hs hb (by rw [hz]; exact .nil _)
  rw [List.append_nil] at this
  exact h1.app this
theorem Way.mono {arcs':List Ar} (h:∀ x∈arcs,x∈arcs') {s z:Int} {w o:List UInt8} (k:Way arcs s w o z):Way arcs' s w o z:=by
 induction k with
 | nil s => exact .nil s
 | cons x hx hs hb _ ih => exact .cons x (h x hx) hs hb ih
end
def Alike (t u:Fs):Prop:=t.n = u.n∧(∀ x,x∈t.starts↔x∈u.starts)∧(∀ x,x∈t.ends↔x∈u.ends)∧(∀ x,x∈t.arcs↔x∈u.arcs)
theorem Alike.symm {t u:Fs} (h:Alike t u):Alike u t:=⟨h.1.symm,fun x => (h.2.1 x).symm,fun x => (h.2.2.1 x).symm,fun x => (h.2.2.2 x).symm⟩
theorem Alike.rel' {t u:Fs} (h:Alike t u) {w o:List UInt8} (k:Rel t w o):Rel u w o:=by
 obtain ⟨x,hx,z,hz,o',hw,ho⟩:=k
 exact ⟨x,(h.2.1 x).1 hx,z,(h.2.2.1 z).1 hz,o',hw.mono fun y hy => (h.2.2.2 y).1 hy,ho⟩
theorem Alike.rel {t u:Fs} (h:Alike t u) (w o:List UInt8):Rel t w o↔Rel u w o:=⟨h.rel',h.symm.rel'⟩
def stOk (n s:Int):Prop:=0≤s∧s < n
def Right (t:Fs):Prop:=0≤t.n∧(∀ x∈t.starts,stOk t.n x.st)∧(∀ x∈t.ends,stOk t.n x.st)∧(∀ x∈t.arcs,stOk t.n x.fr∧stOk t.n x.to)
theorem Way.ok {t:Fs} (h:Right t) {s z:Int} {w o:List UInt8} (k:Way t.arcs s w o z) (hs:stOk t.n s):stOk t.n z:=by
 induction k with
 | nil s => exact hs
 | cons x hx _ _ _ ih => exact ih (h.2.2.2 x hx).2
def St.both (s t:St):St:=⟨s.a &&& t.a,s.b &&& t.b,s.c &&& t.c,s.d &&& t.d⟩
def St.none:St:=⟨0,0,0,0⟩
theorem St.both_m (s t:St) (b:Nat):(s.both t).m b = (s.m b && t.m b):=by
 unfold St.m St.w St.both
 split
 ·exact Nat.testBit_and ..
 split
 ·exact Nat.testBit_and ..
 split
 ·exact Nat.testBit_and ..
 split
 ·exact Nat.testBit_and ..
 ·simp
theorem St.none_m (b:Nat):St.none.m b = false:=by
 unfold St.m St.w St.none
 split
 ·exact Nat.zero_testBit _
 split
 ·exact Nat.zero_testBit _
 split
 ·exact Nat.zero_testBit _
 split <;> exact Nat.zero_testBit _
structure Chain (a b c:Fs):Prop where
 starts:∀ x,x∈c.starts↔∃ q∈a.starts,∃ r∈b.starts,∃ v o,Way b.arcs r.st q.out.data.toList o v∧x.st = q.st * b.n + v∧x.out.data.toList = r.out.data.toList ++ o
 ends:∀ x,x∈c.ends↔∃ p∈a.ends,∃ y,stOk b.n y∧∃ v o,Way b.arcs y p.out.data.toList o v∧∃ z∈b.ends,z.st = v∧x.st = p.st * b.n + y∧x.out.data.toList = o ++ z.out.data.toList
 arcs:∀ e,e∈c.arcs↔∃ x∈a.arcs,∃ y,stOk b.n y∧∃ v o,Way b.arcs y x.out.data.toList o v∧e.fr = x.fr * b.n + y ∧
  ((x.cp = false∧e.to = x.to * b.n + v∧e.set = x.set∧e.out.data.toList = o∧e.cp = false) ∨
   (x.cp = true∧∃ u∈b.arcs,u.fr = v∧x.set.both u.set≠St.none∧e.to = x.to * b.n + u.to∧e.set = x.set.both u.set∧e.out.data.toList = o ++ u.out.data.toList∧e.cp = u.cp))
theorem pair_inj {n p q y z:Int} (hy:stOk n y) (hz:stOk n z) (h:p * n + y = q * n + z):p = q∧y = z:=by
 have hn:0 < n:=by unfold stOk at hy; omega
 have e:(p - q) * n = z - y:=by rw [Int.sub_mul]; omega
 have hpq:p - q = 0:=by
  rcases Int.lt_trichotomy (p - q) 0 with h1 | h1 | h1
  ·have:(p - q) * n≤-1 * n:=Int.mul_le_mul_of_nonneg_right (by omega) (by omega)
   unfold stOk at hy hz; omega
  ·exact h1
  ·have:1 * n≤(p - q) * n:=Int.mul_le_mul_of_nonneg_right (by omega) (by omega)
   unfold stOk at hy hz; omega
 rw [hpq] at e
 omega
theorem way_of_chain {a b c:Fs} (ha:Right a) (hb:Right b) (h:Chain a b c):∀ (w o:List UInt8) (p y p' y':Int),stOk a.n p→stOk b.n y→stOk b.n y' →
    (Way c.arcs (p * b.n + y) w o (p' * b.n + y')↔∃ m,Way a.arcs p w m p'∧Way b.arcs y m o y'):=by
 intro w
 induction w with
 | nil =>
  intro o p y p' y' hp hy hy'
  constructor
  ·intro k
   obtain ⟨rfl,e⟩:=Way.nil_iff.1 k
   obtain ⟨rfl,rfl⟩:=pair_inj hy' hy e
   exact ⟨[],.nil _,.nil _⟩
  ·rintro ⟨m,k1,k2⟩
   obtain ⟨rfl,rfl⟩:=Way.nil_iff.1 k1
   obtain ⟨rfl,rfl⟩:=Way.nil_iff.1 k2
   exact .nil _
 | cons d w ih =>
  intro o p y p' y' hp hy hy'
  constructor
  ·intro k
   obtain ⟨e,he,hf,hd,o',k',rfl⟩:=Way.cons_iff.1 k
   obtain ⟨x,hx,y1,hy1,v,o1,hv,efr,hcase⟩:=(h.arcs e).1 he
   obtain ⟨rfl,rfl⟩:=pair_inj hy1 hy (efr.symm.trans hf)
   have hvok:=hv.ok hb hy1
   rcases hcase with ⟨hcp,hto,hset,hout,hec⟩ | ⟨hcp,u,hu,huf,hne,hto,hset,hout,hec⟩
   ·rw [hto] at k'
    obtain ⟨m,k1,k2⟩:=(ih o' x.to v p' y' (ha.2.2.2 x hx).2 hvok hy').1 k'
    refine ⟨x.put d ++ m,.cons x hx rfl (by rw [← hset]; exact hd) k1,?_⟩
    unfold Ar.put
    rw [hcp,hec,hout]
    simpa using hv.app k2
   ·rw [hto] at k'
    obtain ⟨m,k1,k2⟩:=(ih o' x.to u.to p' y' (ha.2.2.2 x hx).2 (hb.2.2.2 u hu).2 hy').1 k'
    rw [hset,St.both_m,Bool.and_eq_true] at hd
    refine ⟨x.put d ++ m,.cons x hx rfl hd.1 k1,?_⟩
    unfold Ar.put
    rw [hcp,hec,hout]
    have:=hv.app (Way.cons (b:=d) u hu huf hd.2 k2)
    unfold Ar.put at this
    simpa using this
  ·rintro ⟨m,k1,k2⟩
   obtain ⟨x,hx,hf,hd,m',k1',rfl⟩:=Way.cons_iff.1 k1
   unfold Ar.put at k2
   rcases hcp:x.cp with _ | _
   ·rw [hcp] at k2
    simp at k2
    obtain ⟨v,o1,o2,hv,hv2,rfl⟩:=k2.split
    have hvok:=hv.ok hb hy
    have k:=(ih o2 x.to v p' y' (ha.2.2.2 x hx).2 hvok hy').2 ⟨m',k1',hv2⟩
    have he:=(h.arcs ⟨x.fr * b.n + y,x.to * b.n + v,x.set,⟨o1.toArray⟩,false⟩).2 ⟨x,hx,y,hy,v,o1,hv,rfl,.inl ⟨hcp,rfl,rfl,rfl,rfl⟩⟩
    have:=Way.cons (b:=d) _ he (by rw [hf]) hd k
    simpa [Ar.put] using this
   ·rw [hcp] at k2
    simp at k2
    obtain ⟨v,o1,o2,hv,hv2,rfl⟩:=k2.split
    obtain ⟨u,hu,huf,hud,o3,hu3,rfl⟩:=Way.cons_iff.1 hv2
    have k:=(ih o3 x.to u.to p' y' (ha.2.2.2 x hx).2 (hb.2.2.2 u hu).2 hy').2 ⟨m',k1',hu3⟩
    have hm:(x.set.both u.set).m d.toNat = true:=by rw [St.both_m,hd,hud]; rfl
    have hne:x.set.both u.set≠St.none:=by
     intro e
     rw [e,St.none_m] at hm
     cases hm
    have he:=(h.arcs ⟨x.fr * b.n + y,x.to * b.n + u.to,x.set.both u.set,⟨(o1 ++ u.out.data.toList).toArray⟩,u.cp⟩).2 ⟨x,hx,y,hy,v,o1,hv,rfl,.inr ⟨hcp,u,hu,huf,hne,rfl,rfl,rfl,rfl⟩⟩
    have:=Way.cons (b:=d) _ he (by rw [hf]) hm k
    simpa [Ar.put] using this
theorem rel_of_chain {a b c:Fs} (ha:Right a) (hb:Right b) (h:Chain a b c) (w o:List UInt8):Rel c w o↔∃ m,Rel a w m∧Rel b m o:=by
 constructor
 ·rintro ⟨x,hx,z,hz,o',k,rfl⟩
  obtain ⟨q,hq,r,hr,v,o1,hv,es,eo⟩:=(h.starts x).1 hx
  obtain ⟨p,hp,y,hy,v2,o2,hv2,z2,hz2,ez2,et,eto⟩:=(h.ends z).1 hz
  rw [es,et] at k
  obtain ⟨m,k1,k2⟩:=(way_of_chain ha hb h w o' q.st v p.st y (ha.2.1 q hq) (hv.ok hb (hb.2.1 r hr)) hy).1 k
  refine ⟨q.out.data.toList ++ m ++ p.out.data.toList,⟨q,hq,p,hp,m,k1,rfl⟩,r,hr,z2,hz2,o1 ++ o' ++ o2,?_,?_⟩
  ·rw [ez2]; exact (hv.app k2).app hv2
  ·rw [eo,eto]; simp
 ·rintro ⟨m,⟨q,hq,p,hp,m',k1,rfl⟩,r,hr,z,hz,o',k2,rfl⟩
  obtain ⟨y,o12,o3,k12,k3,rfl⟩:=k2.split
  obtain ⟨v,o1,o2,kq,km,rfl⟩:=k12.split
  have hv:=kq.ok hb (hb.2.1 r hr)
  have hy:=km.ok hb hv
  have k:=(way_of_chain ha hb h w o2 q.st v p.st y (ha.2.1 q hq) hv hy).2 ⟨m',k1,km⟩
  refine ⟨⟨q.st * b.n + v,⟨(r.out.data.toList ++ o1).toArray⟩⟩,(h.starts _).2 ⟨q,hq,r,hr,v,o1,kq,rfl,rfl⟩,
   ⟨p.st * b.n + y,⟨(o3 ++ z.out.data.toList).toArray⟩⟩,(h.ends _).2 ⟨p,hp,y,hy,z.st,o3,k3,z,hz,rfl,rfl,rfl⟩,o2,k,?_⟩
  simp
end Go.Proofs.YtcondkihpmmnnaaGreatDoor
namespace Go.Proofs.YtcondkihpmmnnaaGreatDoor
open Go.RowKit Go.Sort Go.Maps Go.WideMaps
theorem spot_none {w:World} {a:Addr} {v:Value} (h:w.cell? a = some v):a = ⟨a.block,a.off,none⟩:=by
 obtain ⟨b,o,s⟩:=a
 cases s with
 | none => rfl
 | some x =>
  unfold World.cell? at h
  simp at h
  split at h <;> cases h
theorem add_mk (g o j:Nat):(⟨g,o,none⟩:Addr).add j = ⟨g,o + j,none⟩:=by
 unfold Addr.add
 split
 ·subst_vars; rfl
 ·rfl
theorem cell_at {w:World} {B n:Nat} {A:Option Addr} {α:Type} {enc:α→Value} {L:List α} {d:α} (HR:Reads w B 1 A n (L.map enc)) (k:Nat) (hk:k < n) :
    ∃ g o,A = some ⟨g,o,none⟩∧g < B∧w.cell? ⟨g,o + k,none⟩ = some (enc (L.getD k d)):=by
 have hn:=HR.1
 simp at hn
 have hkl:k < L.length:=by omega
 obtain ⟨ad,e,hb,hc⟩:=HR.2 (by omega)
 have h0:=hc 0 _ (show (L.map enc)[0]? = some (enc (L[0]'(by omega))) by simp [show 0 < L.length by omega])
 have h00:ad.add 0 = ad:=by simp [Addr.add]
 rw [h00] at h0
 have es:=spot_none h0
 have c1:=hc k _ (show (L.map enc)[k]? = some (enc L[k]) by simp [hkl])
 rw [es,add_mk] at c1
 have e2:L.getD k d = L[k]:=by rw [List.getD_eq_getElem?_getD,List.getElem?_eq_getElem hkl]; rfl
 rw [e2]
 exact ⟨ad.block,ad.off,by rw [e,← es],hb,c1⟩
def Rows2 (w:World) (B:Nat) (A:Option Addr) (n:Nat) (rows:List (List Value)):Prop :=
 ∃ hs:List (Option Addr × Nat),hs.length = rows.length ∧
  Reads w B 1 A n ((List.zip hs rows).map fun x => Value.slice x.1.1 x.2.length x.1.2) ∧
  ∀ x∈List.zip hs rows,Reads w B 1 x.1.1 x.2.length x.2∧x.2.length≤x.1.2∧x.1.2≤maxLen
theorem Rows2.len {w:World} {B n:Nat} {A:Option Addr} {rows:List (List Value)} (h:Rows2 w B A n rows):rows.length = n:=by
 obtain ⟨hs,hl,hR,_⟩:=h
 have:=hR.1
 simp at this
 omega
theorem Rows2.keep {w w':World} {B n:Nat} {A:Option Addr} {rows:List (List Value)} (h:Rows2 w B A n rows) (hk:∀ p:Addr,p.block < B→w'.cell? p = w.cell? p):Rows2 w' B A n rows:=by
 obtain ⟨hs,hl,hR,hx⟩:=h
 exact ⟨hs,hl,hR.keep hk,fun x hm => ⟨(hx x hm).1.keep hk,(hx x hm).2⟩⟩
theorem Rows2.below {w w':World} {B n:Nat} {A:Option Addr} {rows:List (List Value)} (h:Rows2 w B A n rows) (hb:Below B w w'):Rows2 w' B A n rows:=h.keep fun _ hp => hb.cell hp
theorem Rows2.more {w:World} {B B' n:Nat} {A:Option Addr} {rows:List (List Value)} (h:Rows2 w B A n rows) (hB:B≤B'):Rows2 w B' A n rows:=by
 obtain ⟨hs,hl,hR,hx⟩:=h
 exact ⟨hs,hl,hR.more hB,fun x hm => ⟨(hx x hm).1.more hB,(hx x hm).2⟩⟩
theorem Rows2.at_ {w:World} {B n:Nat} {A:Option Addr} {rows:List (List Value)} (h:Rows2 w B A n rows) (k:Nat) (hk:k < n) :
    ∃ g o A' c,A = some ⟨g,o,none⟩∧g < B∧w.cell? ⟨g,o + k,none⟩ = some (.slice A' (rows.getD k []).length c)∧Reads w B 1 A' (rows.getD k []).length (rows.getD k [])∧(rows.getD k []).length≤c∧c≤maxLen:=by
 have hn:=h.len
 obtain ⟨hs,hl,hR,hx⟩:=h
 obtain ⟨g,o,e,hg,hc⟩:=cell_at (d:=((none,0),[])) hR k hk
 have hz:(List.zip hs rows).getD k ((none,0),[]) = (hs[k]'(by omega),rows[k]'(by omega)):=by
  rw [List.getD_eq_getElem?_getD,List.getElem?_eq_getElem (by simp; omega)]
  simp
 rw [hz] at hc
 have hr:rows.getD k [] = rows[k]'(by omega):=by
  rw [List.getD_eq_getElem?_getD,List.getElem?_eq_getElem (by omega)]; rfl
 have hm:(hs[k]'(by omega),rows[k]'(by omega))∈List.zip hs rows:=by
  rw [List.mem_iff_getElem]
  exact ⟨k,by simp; omega,by simp⟩
 rw [hr]
 exact ⟨g,o,_,_,e,hg,hc,(hx _ hm).1,(hx _ hm).2.1,(hx _ hm).2.2⟩
structure SeqM where
 front:ByteArray
 next:List (List Int)
 outs:List (List ByteArray)
 ends:List Bool
 tail:List ByteArray
def SeqAt (w:World) (B:Nat) (q:SeqM) (v:Value):Prop :=
 ∃ A1 c1 A2 c2 A3 c3 A4 c4,v = .agg #[.string q.front,.slice A1 q.next.length c1,.slice A2 q.outs.length c2,.slice A3 q.ends.length c3,.slice A4 q.tail.length c4] ∧
  q.front.size≤maxLen∧q.next.length≤c1∧q.outs.length≤c2∧q.ends.length≤c3∧q.tail.length≤c4∧c1≤maxLen∧c2≤maxLen∧c3≤maxLen∧c4≤maxLen ∧
  Rows2 w B A1 q.next.length (q.next.map fun r => r.map (Value.int .i64))∧(∀ r∈q.next,∀ z∈r,-9223372036854775808≤z∧z≤9223372036854775807) ∧
  Rows2 w B A2 q.outs.length (q.outs.map fun r => r.map Value.string)∧(∀ r∈q.outs,∀ s∈r,s.size≤maxLen) ∧
  Reads w B 1 A3 q.ends.length (q.ends.map Value.bool) ∧
  Reads w B 1 A4 q.tail.length (q.tail.map Value.string)∧(∀ s∈q.tail,s.size≤maxLen)
def entB (z:Int) (o:ByteArray) (n:Nat):Bool:=decide (-1≤z) && decide (z < (n:Int)) && decide (o.size≤4096) && (decide (z≠-1) || decide (o.size = 0))
def rowB (Z:List Int) (O:List ByteArray) (n:Nat):Bool :=
 decide (Z.length = 256) && decide (O.length = 256) && (List.range 256).all fun b => entB (Z.getD b 0) (O.getD b ByteArray.empty) n
theorem range_all_false {p:Nat→Bool} {n k:Nat} (hk:k < n) (h:p k = false):(List.range n).all p = false:=by
 rw [List.all_eq_false]
 exact ⟨k,List.mem_range.2 hk,by simp [h]⟩
end Go.Proofs.YtcondkihpmmnnaaGreatDoor
namespace Go.Proofs.YtcondkihpmmnnaaGreatDoor
open Go.RowKit Go.Sort
section
variable {α:Type} {enc:α→List Value} {k:Nat}
def encs (enc:α→List Value) (l:List α):List Value:=l.flatMap enc
theorem encs_length (hk:∀ x,(enc x).length = k) (l:List α):(encs enc l).length = l.length * k:=by
 induction l with
 | nil => simp [encs]
 | cons x l ih =>
  have e:encs enc (x :: l) = enc x ++ encs enc l:=rfl
  rw [e,List.length_append,ih,hk,List.length_cons,Nat.succ_mul,Nat.add_comm]
theorem encs_append (l m:List α):encs enc (l ++ m) = encs enc l ++ encs enc m:=by simp [encs]
theorem encs_one (x:α):encs enc [x] = enc x:=by simp [encs]
theorem encs_snoc (l:List α) (x:α):encs enc (l ++ [x]) = encs enc l ++ enc x:=by rw [encs_append,encs_one]
theorem encs_get (hk:∀ x,(enc x).length = k) (l:List α) (d:α) (j i:Nat) (hj:j < l.length) (hi:i < k):(encs enc l)[j * k + i]? = (enc (l.getD j d))[i]?:=by
 induction l generalizing j with
 | nil => simp at hj
 | cons x l ih =>
  have e:encs enc (x :: l) = enc x ++ encs enc l:=rfl
  rw [e]
  cases j with
  | zero => rw [List.getElem?_append_left (by rw [hk]; omega),Nat.zero_mul,Nat.zero_add]; rfl
  | succ j =>
   have h1:(j + 1) * k = j * k + k:=Nat.succ_mul j k
   rw [List.getElem?_append_right (by rw [hk]; omega),hk,show (j + 1) * k + i - k = j * k + i by omega]
   have:=ih j (by simpa using hj)
   rw [this]
   rfl
theorem enc_cell {w:World} {B n:Nat} {A:Option Addr} {l:List α} (hk:∀ x,(enc x).length = k) (h0:0 < k) (HR:Reads w B k A n (encs enc l)) (d:α) (j:Nat) (hj:j < n) :
    ∃ g o,A = some ⟨g,o,none⟩∧g < B∧∀ i u,(enc (l.getD j d))[i]? = some u→w.cell? ⟨g,o + (j * k + i),none⟩ = some u:=by
 have hn:=HR.1
 rw [encs_length hk] at hn
 have hl:l.length = n:=Nat.eq_of_mul_eq_mul_right h0 hn
 obtain ⟨ad,e,hb,hc⟩:=HR.2 (by omega)
 have hlen0:0 < (enc (l.getD 0 d)).length:=by rw [hk]; exact h0
 have h00:=hc (0 * k + 0) _ ((encs_get hk l d 0 0 (by omega) h0).trans (List.getElem?_eq_getElem hlen0))
 rw [show ad.add (0 * k + 0) = ad by simp [Addr.add]] at h00
 have es:=spot_none h00
 refine ⟨ad.block,ad.off,by rw [e,← es],hb,fun i u hu => ?_⟩
 have hi:i < k:=by
  rcases Nat.lt_or_ge i (enc (l.getD j d)).length with h | h
  ·rw [hk] at h; exact h
  ·rw [List.getElem?_eq_none h] at hu; cases hu
 have:=hc (j * k + i) u (by rw [encs_get hk l d j i (by omega) hi]; exact hu)
 rw [es,add_mk] at this
 exact this
theorem reads_len {w:World} {B n:Nat} {A:Option Addr} {l:List α} (hk:∀ x,(enc x).length = k) (h0:0 < k) (HR:Reads w B k A n (encs enc l)):l.length = n:=by
 have hn:=HR.1
 rw [encs_length hk] at hn
 exact Nat.eq_of_mul_eq_mul_right h0 hn
end
theorem reads_alloc (w:World) (xs:List Value) (t:TypeId) (_h:0 < xs.length) :
    Reads (w.alloc (.cells xs.toArray t)) (w.alloc (.cells xs.toArray t)).heap.size 1 (some ⟨w.heap.size,0,none⟩) xs.length xs:=by
 refine ⟨by simp,fun _ => ⟨_,rfl,by simp,fun j u hu => ?_⟩⟩
 have hb:=Blk.new w t xs.toArray
 have:=hb.cell j
 rw [show (⟨w.heap.size,0,none⟩:Addr).add j = ⟨w.heap.size,j,none⟩ from by unfold Addr.add; split <;> simp_all]
 rw [this]
 simpa using hu
def encT (x:Tp):List Value:=[.int .i64 x.st,.string x.out]
def encA (x:Ar):List Value:=[.int .i64 x.fr,.int .i64 x.to,.int .u64 (x.set.a:Int),.int .u64 (x.set.b:Int),.int .u64 (x.set.c:Int),.int .u64 (x.set.d:Int),.string x.out,.bool x.cp]
theorem encT_len (x:Tp):(encT x).length = 2:=rfl
theorem encA_len (x:Ar):(encA x).length = 8:=rfl
theorem encT_one (x:Tp):∀ v∈encT x,v.oneCell' = true:=by
 intro v hv
 simp [encT] at hv
 rcases hv with rfl | rfl <;> rfl
theorem encA_one (x:Ar):∀ v∈encA x,v.oneCell' = true:=by
 intro v hv
 simp [encA] at hv
 rcases hv with rfl | rfl | rfl | rfl | rfl | rfl | rfl | rfl <;> rfl
def tp0:Tp:=⟨0,ByteArray.empty⟩
def ar0:Ar:=⟨0,0,⟨0,0,0,0⟩,ByteArray.empty,false⟩
theorem tip_cell {w:World} {B n:Nat} {A:Option Addr} {l:List Tp} (HR:Reads w B 2 A n (encs encT l)) (j:Nat) (hj:j < n) :
    ∃ g o,A = some ⟨g,o,none⟩∧g < B∧w.cell? ⟨g,o + j * 2,none⟩ = some (.int .i64 (l.getD j tp0).st)∧w.cell? ⟨g,o + j * 2 + 1,none⟩ = some (.string (l.getD j tp0).out):=by
 obtain ⟨g,o,e,hg,hc⟩:=enc_cell encT_len (by decide) HR tp0 j hj
 exact ⟨g,o,e,hg,hc 0 _ rfl,hc 1 _ rfl⟩
theorem arc_cell {w:World} {B n:Nat} {A:Option Addr} {l:List Ar} (HR:Reads w B 8 A n (encs encA l)) (j:Nat) (hj:j < n) :
    ∃ g o,A = some ⟨g,o,none⟩∧g < B∧w.cell? ⟨g,o + j * 8,none⟩ = some (.int .i64 (l.getD j ar0).fr)∧w.cell? ⟨g,o + j * 8 + 1,none⟩ = some (.int .i64 (l.getD j ar0).to) ∧
     w.cell? ⟨g,o + j * 8 + 2,none⟩ = some (.int .u64 ((l.getD j ar0).set.a:Int))∧w.cell? ⟨g,o + j * 8 + 3,none⟩ = some (.int .u64 ((l.getD j ar0).set.b:Int)) ∧
     w.cell? ⟨g,o + j * 8 + 4,none⟩ = some (.int .u64 ((l.getD j ar0).set.c:Int))∧w.cell? ⟨g,o + j * 8 + 5,none⟩ = some (.int .u64 ((l.getD j ar0).set.d:Int)) ∧
     w.cell? ⟨g,o + j * 8 + 6,none⟩ = some (.string (l.getD j ar0).out)∧w.cell? ⟨g,o + j * 8 + 7,none⟩ = some (.bool (l.getD j ar0).cp):=by
 obtain ⟨g,o,e,hg,hc⟩:=enc_cell encA_len (by decide) HR ar0 j hj
 exact ⟨g,o,e,hg,hc 0 _ rfl,hc 1 _ rfl,hc 2 _ rfl,hc 3 _ rfl,hc 4 _ rfl,hc 5 _ rfl,hc 6 _ rfl,hc 7 _ rfl⟩
def TpW (x:Tp):Prop:=-9223372036854775808≤x.st∧x.st≤9223372036854775807∧x.out.size≤maxLen
def StW (s:St):Prop:=s.a < 18446744073709551616∧s.b < 18446744073709551616∧s.c < 18446744073709551616∧s.d < 18446744073709551616
def ArW (x:Ar):Prop:=-9223372036854775808≤x.fr∧x.fr≤9223372036854775807∧-9223372036854775808≤x.to∧x.to≤9223372036854775807∧StW x.set∧x.out.size≤maxLen
def FstAt (w:World) (B:Nat) (t:Fs) (v:Value):Prop :=
 ∃ A1 c1 A2 c2 A3 c3,v = .agg #[.int .i64 t.n,.slice A1 t.starts.length c1,.slice A2 t.ends.length c2,.slice A3 t.arcs.length c3] ∧
  t.starts.length≤c1∧t.ends.length≤c2∧t.arcs.length≤c3∧c1≤maxLen∧c2≤maxLen∧c3≤maxLen ∧
  -9223372036854775808≤t.n∧t.n≤9223372036854775807 ∧
  Reads w B 2 A1 t.starts.length (encs encT t.starts)∧(∀ x∈t.starts,TpW x) ∧
  Reads w B 2 A2 t.ends.length (encs encT t.ends)∧(∀ x∈t.ends,TpW x) ∧
  Reads w B 8 A3 t.arcs.length (encs encA t.arcs)∧(∀ x∈t.arcs,ArW x)
theorem FstAt.below {w w':World} {B:Nat} {t:Fs} {v:Value} (h:FstAt w B t v) (hb:Below B w w'):FstAt w' B t v:=by
 obtain ⟨A1,c1,A2,c2,A3,c3,rfl,h1,h2,h3,h4,h5,h6,h7,h8,R1,W1,R2,W2,R3,W3⟩:=h
 exact ⟨A1,c1,A2,c2,A3,c3,rfl,h1,h2,h3,h4,h5,h6,h7,h8,R1.below hb,W1,R2.below hb,W2,R3.below hb,W3⟩
theorem FstAt.more {w:World} {B B':Nat} {t:Fs} {v:Value} (h:FstAt w B t v) (hb:B≤B'):FstAt w B' t v:=by
 obtain ⟨A1,c1,A2,c2,A3,c3,rfl,h1,h2,h3,h4,h5,h6,h7,h8,R1,W1,R2,W2,R3,W3⟩:=h
 exact ⟨A1,c1,A2,c2,A3,c3,rfl,h1,h2,h3,h4,h5,h6,h7,h8,R1.more hb,W1,R2.more hb,W2,R3.more hb,W3⟩
def stB' (s n:Int):Bool:=decide (0≤s) && decide (s < n)
def tipB (n:Int) (x:Tp):Bool:=stB' x.st n && decide (x.out.size≤1024)
def tipsB (l:List Tp) (n:Int):Bool:=decide (l.length≤1024) && l.all (tipB n)
def arcB (n:Int) (x:Ar):Bool:=stB' x.fr n && stB' x.to n && (x.set != St.none) && decide (x.out.size≤1024)
def fckB (t:Fs):Bool:=decide (0≤t.n) && decide (t.n≤1024) && decide (t.arcs.length≤16384) && tipsB t.starts t.n && tipsB t.ends t.n && t.arcs.all (arcB t.n)
def okE (b:Bool):Int:=if b then 0 else 1
theorem stB_ok {s n:Int} (h:stB' s n = true):stOk n s:=by
 unfold stB' at h
 simp at h
 exact h
theorem fckB_right {t:Fs} (h:fckB t = true):Right t:=by
 unfold fckB tipsB at h
 simp only [Bool.and_eq_true,decide_eq_true_eq,List.all_eq_true] at h
 obtain ⟨⟨⟨⟨⟨h1,h2⟩,h3⟩,h4⟩,h5⟩,h6⟩:=h
 refine ⟨h1,fun x hx => ?_,fun x hx => ?_,fun x hx => ?_⟩
 ·have:=h4.2 x hx
  unfold tipB at this
  rw [Bool.and_eq_true] at this
  exact stB_ok this.1
 ·have:=h5.2 x hx
  unfold tipB at this
  rw [Bool.and_eq_true] at this
  exact stB_ok this.1
 ·have:=h6 x hx
  unfold arcB at this
  simp only [Bool.and_eq_true] at this
  exact ⟨stB_ok this.1.1.1,stB_ok this.1.1.2⟩
theorem all_fail {α:Type} {p:α→Bool} {l:List α} (d:α) (k:Nat) (hk:k < l.length) (h:p (l.getD k d) = false):l.all p = false:=by
 rw [List.all_eq_false]
 rw [List.getD_eq_getElem?_getD,List.getElem?_eq_getElem hk] at h
 exact ⟨l[k],List.getElem_mem _,by simpa using h⟩
theorem all_next {α:Type} {p:α→Bool} {l:List α} (d:α) (k:Nat) (hk:k < l.length) (h:p (l.getD k d) = true) (ha:(l.take k).all p = true):(l.take (k + 1)).all p = true:=by
 rw [List.getD_eq_getElem?_getD,List.getElem?_eq_getElem hk] at h
 rw [List.take_succ_eq_append_getElem hk,List.all_append,ha]
 simpa using h
end Go.Proofs.YtcondkihpmmnnaaGreatDoor
namespace Go.Proofs.YtcondkihpmmnnaaGreatDoor
open Go.RowKit Go.Sort
theorem cmpInt_any (x y:Int) (w:World):Calls Tryz.prog 83 #[.int .i64 x,.int .i64 y] w (fun e w' => e = .returned (.int .i64 (Lib.compareInt x y))∧w = w'):=by
 unfold Lib.compareInt
 by_cases h1:x < y
 ·rw [if_pos h1]
  go_enter Tryz.func83,Tryz.ntmps83
  go_wp2
  go_ret
  exact ⟨rfl,rfl⟩
 ·rw [if_neg h1]
  by_cases h2:x > y
  ·rw [if_pos h2]
   go_enter Tryz.func83,Tryz.ntmps83
   go_wp2
   go_ret
   exact ⟨rfl,rfl⟩
  ·rw [if_neg h2]
   go_enter Tryz.func83,Tryz.ntmps83
   go_wp2
   go_ret
   exact ⟨rfl,rfl⟩
theorem cmpWord_any (x y:Int) (w:World):Calls Tryz.prog 117 #[.int .u64 x,.int .u64 y] w (fun e w' => e = .returned (.int .i64 (Lib.compareInt x y))∧w = w'):=by
 unfold Lib.compareInt
 by_cases h1:x < y
 ·rw [if_pos h1]
  go_enter Tryz.func117,Tryz.ntmps117
  go_wp2
  go_ret
  exact ⟨rfl,rfl⟩
 ·rw [if_neg h1]
  by_cases h2:x > y
  ·rw [if_pos h2]
   go_enter Tryz.func117,Tryz.ntmps117
   go_wp2
   go_ret
   exact ⟨rfl,rfl⟩
  ·rw [if_neg h2]
   go_enter Tryz.func117,Tryz.ntmps117
   go_wp2
   go_ret
   exact ⟨rfl,rfl⟩
theorem cmpB_cases:∀ a b:List UInt8,(Lib.compareBytes a b = -1∧Op.bytesLess a b = true∧Op.bytesLess b a = false∧(a == b) = false)∨(Lib.compareBytes a b = 0∧Op.bytesLess a b = false∧Op.bytesLess b a = false∧(a == b) = true)∨(Lib.compareBytes a b = 1∧Op.bytesLess a b = false∧Op.bytesLess b a = true∧(a == b) = false)
 | [],[] => .inr (.inl ⟨rfl,rfl,rfl,rfl⟩)
 | [],_ :: _ => .inl ⟨rfl,rfl,rfl,rfl⟩
 | _ :: _,[] => .inr (.inr ⟨rfl,rfl,rfl,rfl⟩)
 | x :: a,y :: b => by
  have ih:=cmpB_cases a b
  unfold Lib.compareBytes Op.bytesLess
  rw [List.cons_beq_cons]
  by_cases h1:x < y
  ·have h2:¬ y < x:=UInt8.lt_asymm h1
   have h3:(y == x) = false:=by rw [beq_eq_false_iff_ne]; rintro rfl; exact UInt8.lt_irrefl _ h1
   have h4:(x == y) = false:=by rw [beq_eq_false_iff_ne]; rintro rfl; exact UInt8.lt_irrefl _ h1
   simp [h1,h2,h3,h4]
  ·by_cases h2:y < x
   ·have h3:(x == y) = false:=by rw [beq_eq_false_iff_ne]; rintro rfl; exact UInt8.lt_irrefl _ h2
    simp [h1,h2,h3]
   ·have h3:x = y:=UInt8.le_antisymm (UInt8.not_lt.1 h2) (UInt8.not_lt.1 h1)
    subst h3
    simpa [h1] using ih
def cmpS (a b:ByteArray):Int:=Lib.compareBytes a.data.toList b.data.toList
theorem cmpText_any (x y:ByteArray) (w:World):Calls Tryz.prog 120 #[.string x,.string y] w (fun e w' => e = .returned (.int .i64 (cmpS x y))∧w = w'):=by
 have h:=cmpB_cases x.data.toList y.data.toList
 unfold cmpS
 rw [← Lib.toList_data,← Lib.toList_data] at h ⊢
 generalize Lib.compareBytes x.toList y.toList = r at *
 rcases h with ⟨rfl,h1,h2,h3⟩ | ⟨rfl,h1,h2,h3⟩ | ⟨rfl,h1,h2,h3⟩
 all_goals
  go_enter Tryz.func120,Tryz.ntmps120
  go_wp2
  go_ret
  exact ⟨rfl,rfl⟩
def orL:List Int→Int
 | [] => 0
 | x :: l => if x≠0 then x else orL l
theorem orL_zero:∀ (l:List Int) (k:Nat),(∀ x∈l.take k,x = 0)→orL l = orL (l.drop k)
 | l,0,_ => rfl
 | [],k + 1,_ => rfl
 | x :: l,k + 1,h => by
  rw [List.drop_succ_cons,← orL_zero l k fun y hy => h y (by simp [hy])]
  show (if x≠0 then x else orL l) = _
  rw [if_neg (by simpa using h x (by simp))]
theorem or_any (A:Option Addr) (n c B:Nat) (l:List Int) (w:World) (HR:Reads w B 1 A n (l.map (Value.int .i64))) (hn:n≤1000) :
    Calls Tryz.prog 82 #[.slice A n c] w (fun e w' => e = .returned (.int .i64 (orL l))∧w = w'):=by
 have hl:l.length = n:=by have:=HR.1; simpa using this
 go_enter Tryz.func82,Tryz.ntmps82
 go_wp2
 go_loop [8] (fun i => ∃ k:Nat,k≤n∧i = .int .i64 k∧∀ x∈l.take k,x = 0) (fun i => n - (intOf i).toNat)
 case atStart => exact ⟨0,by omega,rfl,fun x hx => by simp at hx⟩
 case round =>
  obtain ⟨k,hk,rfl,ha⟩:=hrel
  by_cases hlt:k < n
  ·have hi1:(0:Int)≤(k:Int):=by omega
   have hi2:(k:Int) < (n:Int):=by omega
   obtain ⟨g,o,rfl,hgB,c0⟩:=cell_at (d:=0) HR k hlt
   have hz:=orL_zero l k ha
   have hd:l.drop k = l.getD k 0 :: l.drop (k + 1):=by
    rw [List.getD_eq_getElem?_getD,List.getElem?_eq_getElem (by omega)]
    exact List.drop_eq_getElem_cons (by omega)
   rw [hd] at hz
   have hs:l.getD k 0 = 0→∀ x∈l.take (k + 1),x = 0:=fun h0 x hx => by
    rw [List.take_succ_eq_append_getElem (by omega),List.mem_append] at hx
    rcases hx with hx | hx
    ·exact ha x hx
    ·rw [List.getD_eq_getElem?_getD,List.getElem?_eq_getElem (by omega)] at h0
     simp at hx
     rw [hx]; exact h0
   clear hd ha
   generalize l.getD k 0 = x at *
   by_cases h0:x = 0
   ·have HS:=Lib.hid (hs h0)
    clear hz hs
    subst h0
    go_wp2
    go_round
    case rel => exact ⟨k + 1,by omega,by go_num,HS.out⟩
    case measure => simp [intOf]; omega
   ·have hz2:orL l = x:=by rw [hz]; unfold orL; rw [if_pos h0]
    have HZ:=Lib.hid hz2
    clear hz hz2 hs
    go_wp2
    go_ret
    refine ⟨?_,rfl⟩
    rw [HZ.out]; rfl
  ·have e:k = n:=by omega
   subst e
   have hz:orL l = 0:=by rw [orL_zero l k ha,List.drop_of_length_le (by omega)]; rfl
   have HZ:=Lib.hid hz
   clear hz ha
   go_wp2
   go_ret
   refine ⟨?_,rfl⟩
   rw [HZ.out]; rfl
def numB (b:Bool):Int:=if b then 1 else 0
theorem number_any (b:Bool) (w:World):Calls Tryz.prog 89 #[.bool b] w (fun e w' => e = .returned (.int .i64 (numB b))∧w = w'):=by
 cases b
 all_goals
  go_enter Tryz.func89,Tryz.ntmps89
  go_wp2
  go_ret
  exact ⟨rfl,rfl⟩
def cmpL (l m:List Int):Int:=orL (List.zipWith Lib.compareInt l m)
theorem cmpInt_range (x y:Int):-1≤Lib.compareInt x y∧Lib.compareInt x y≤1:=by
 unfold Lib.compareInt
 split
 ·omega
 ·split <;> omega
set_option maxHeartbeats 1000000 in
theorem cmpWords_any (A A':Option Addr) (n c c' B:Nat) (l m:List Int) (w:World) (HR:Reads w B 1 A n (l.map (Value.int .u64))) (HR':Reads w B 1 A' n (m.map (Value.int .u64))) (hn:n≤1000) :
    Calls Tryz.prog 88 #[.slice A n c,.slice A' n c'] w (fun e w' => e = .returned (.int .i64 (cmpL l m))∧w = w'):=by
 have hl:l.length = n:=by have:=HR.1; simpa using this
 have hm:m.length = n:=by have:=HR'.1; simpa using this
 go_enter Tryz.func88,Tryz.ntmps88
 go_wp2
 go_loop [11] (fun i => ∃ k:Nat,k≤n∧i = .int .i64 k∧∀ x∈(List.zipWith Lib.compareInt l m).take k,x = 0) (fun i => n - (intOf i).toNat)
 case atStart => exact ⟨0,by omega,rfl,fun x hx => by simp at hx⟩
 case round =>
  obtain ⟨k,hk,rfl,ha⟩:=hrel
  have hzl:(List.zipWith Lib.compareInt l m).length = n:=by rw [List.length_zipWith,hl,hm]; omega
  by_cases hlt:k < n
  ·have hi1:(0:Int)≤(k:Int):=by omega
   have hi2:(k:Int) < (n:Int):=by omega
   have hi3:¬ n≤k:=by omega
   obtain ⟨g,o,rfl,hgB,c0⟩:=cell_at (d:=0) HR k hlt
   obtain ⟨g',o',rfl,hgB',d0⟩:=cell_at (d:=0) HR' k hlt
   have hz:=orL_zero _ k ha
   have hg:(List.zipWith Lib.compareInt l m)[k]'(by omega) = Lib.compareInt (l.getD k 0) (m.getD k 0):=by
    rw [List.getElem_zipWith,List.getD_eq_getElem?_getD,List.getD_eq_getElem?_getD,List.getElem?_eq_getElem (by omega),List.getElem?_eq_getElem (by omega)]
    rfl
   have hd:(List.zipWith Lib.compareInt l m).drop k = Lib.compareInt (l.getD k 0) (m.getD k 0) :: (List.zipWith Lib.compareInt l m).drop (k + 1):=by
    rw [← hg]
    exact List.drop_eq_getElem_cons (by omega)
   rw [hd] at hz
   have hs:Lib.compareInt (l.getD k 0) (m.getD k 0) = 0→∀ x∈(List.zipWith Lib.compareInt l m).take (k + 1),x = 0:=fun h0 x hx => by
    rw [List.take_succ_eq_append_getElem (by omega),List.mem_append] at hx
    rcases hx with hx | hx
    ·exact ha x hx
    ·simp only [hg,List.mem_singleton] at hx
     rw [hx]; exact h0
   have hc:=fun W => cmpWord_any (l.getD k 0) (m.getD k 0) W
   have hrg:=cmpInt_range (l.getD k 0) (m.getD k 0)
   clear hd ha hg hzl
   generalize Lib.compareInt (l.getD k 0) (m.getD k 0) = r at *
   generalize l.getD k 0 = x at *
   generalize m.getD k 0 = y at *
   by_cases h0:r = 0
   ·have HS:=Lib.hid (hs h0)
    clear hz hs
    subst h0
    go_wp2_with (go_at_call 117; refine (hc _).mono ?_; rintro e w1 ⟨rfl,rfl⟩)
    go_round
    case rel => exact ⟨k + 1,by omega,by go_num,HS.out⟩
    case measure => simp [intOf]; omega
   ·have hz2:cmpL l m = r:=by unfold cmpL; rw [hz]; unfold orL; rw [if_pos h0]
    have HZ:=Lib.hid hz2
    have hb:((r:Int) != 0) = true:=by simpa using h0
    clear hz hz2 hs
    go_wp2_with (go_at_call 117; refine (hc _).mono ?_; rintro e w1 ⟨rfl,rfl⟩)
    go_ret
    refine ⟨?_,rfl⟩
    rw [HZ.out]; rfl
  ·have e:k = n:=by omega
   subst e
   have hz:cmpL l m = 0:=by unfold cmpL; rw [orL_zero _ k ha,List.drop_of_length_le (by omega)]; rfl
   have HZ:=Lib.hid hz
   clear hz ha
   go_wp2
   go_ret
   refine ⟨?_,rfl⟩
   rw [HZ.out]; rfl
end Go.Proofs.YtcondkihpmmnnaaGreatDoor
