/- Lemmas, part 4 of 50. No condition. -/
import Derived.RangeFuncNested
import Derived.OwnWalkIn
import Derived.Shelf.RegionOpen
import Derived.Test.YtcondkihpmmnnaaGreatDoorTwin02
set_option maxRecDepth 100000
set_option maxHeartbeats 16000000
namespace Go.Proofs.YtcondkihpmmnnaaGreatDoor
section
structure Tp where
 st:Int
 out:ByteArray
 deriving DecidableEq
structure St where
 a:Nat
 b:Nat
 c:Nat
 d:Nat
 deriving DecidableEq
structure Ar where
 fr:Int
 to:Int
 set:St
 out:ByteArray
 cp:Bool
 deriving DecidableEq
structure Fs where
 n:Int
 starts:List Tp
 ends:List Tp
 arcs:List Ar
def St.w (s:St) (i:Nat):Nat:=if i=0 then s.a else if i=1 then s.b else if i=2 then s.c else if i=3 then s.d else 0
def St.m (s:St) (b:Nat):Bool:=(s.w (b / 64)).testBit (b%64)
def Ar.put (x:Ar) (b:UInt8):List UInt8:=x.out.data.toList++if x.cp then[b]else[]
inductive Way (arcs:List Ar):Int->List UInt8->List UInt8->Int->Prop
 | nil (s:Int):Way arcs s [] [] s
 | cons {s z:Int} {b:UInt8} {w o:List UInt8} (x:Ar) (hx:x∈arcs) (hs:x.fr=s) (hb:x.set.m b.toNat=true) (h:Way arcs x.to w o z):Way arcs s (b::w) (x.put b++o) z
def RV (t:Fs) (w o:List UInt8):Prop:=∃x∈t.starts,∃z∈t.ends,∃o',Way t.arcs x.st w o' z.st/\o=x.out.data.toList++o'++z.out.data.toList
section
variable {arcs:List Ar}
theorem Way.app {s z y:Int} {w o w' a:List UInt8} (h:Way arcs s w o z) (k:Way arcs z w' a y):Way arcs s (w++w') (o++a) y:=by
 induction h with
 | nil s=>exact k
 | cons x hx hs hb _ ih=>rw[Cf,Ac];exact .cons x hx hs hb (ih k)
theorem Way.nil_iff {s z:Int} {o:List UInt8}:Way arcs s [] o z↔o=[]/\z=s:=⟨fun h=>by cases h;exact⟨rfl,rfl⟩,fun⟨h1,h2⟩=>by subst h1;subst h2;exact .nil _⟩
theorem Way.cons_iff {s z:Int} {b:UInt8} {w o:List UInt8}:Way arcs s (b::w) o z↔∃x∈arcs,x.fr=s/\x.set.m b.toNat=true/\∃a,Way arcs x.to w a z/\o=x.put b++a:=⟨fun h=>by cases h with|cons x c d e h=>exact⟨x,c,d,e,_,h,rfl⟩,fun⟨x,c,d,e,a,h,f⟩=>by subst f;exact .cons x c d e h⟩
theorem Way.split:∀{w:List UInt8} {w':List UInt8} {s z:Int} {o:List UInt8},Way arcs s (w++w') o z->∃y a c,Way arcs s w a y/\Way arcs y w' c z/\o=a++c
 | [],w',s,z,o,h=>⟨s,[],o,.nil s,h,rfl⟩
 | b::w,w',s,z,o,h=>by obtain⟨x,d,e,f,i,g,rfl⟩:=Way.cons_iff.1 h;obtain⟨y,a,c,h1,h2,rfl⟩:=Way.split g;exact⟨y,x.put b++a,c,.cons x d e f h1,h2,by rw[Ac]⟩
theorem Way.snoc_iff {s z:Int} {b:UInt8} {w o:List UInt8}:Way arcs s (w++[b]) o z↔∃y a,Way arcs s w a y/\∃x∈arcs,x.fr=y/\x.set.m b.toNat=true/\x.to=z/\o=a++x.put b:=by
 constructor
 .intro h;obtain⟨y,a,i,h1,h2,rfl⟩:=h.split;obtain⟨x,c,d,e,j,f,rfl⟩:=Way.cons_iff.1 h2;obtain⟨rfl,rfl⟩:=Way.nil_iff.1 f;exact⟨y,a,h1,x,c,d,e,rfl,by simp⟩
 .rintro ⟨y,a,h1,x,c,d,e,g,rfl⟩;have:Way arcs y [b] (x.put b++[]) z:=.cons x c d e (by rw[g];exact .nil _);rw[BC]at this;exact h1.app this
theorem Way.mono {a:List Ar} (h:∀x∈arcs,x∈a) {s z:Int} {w o:List UInt8} (k:Way arcs s w o z):Way a s w o z:=by
 induction k with
 | nil s=>exact .nil s
 | cons x hx hs hb _ ih=>exact .cons x (h x hx) hs hb ih
end
def Alike (t u:Fs):Prop:=t.n=u.n/\(∀x,x∈t.starts↔x∈u.starts)/\(∀x,x∈t.ends↔x∈u.ends)/\(∀x,x∈t.arcs↔x∈u.arcs)
theorem Alike.symm {t u:Fs} (h:Alike t u):Alike u t:=⟨h.1.symm,fun x=>(h.2.1 x).symm,fun x=>(h.2.2.1 x).symm,fun x=>(h.2.2.2 x).symm⟩
theorem Alike.rel' {t u:Fs} (h:Alike t u) {w o:List UInt8} (k:RV t w o):RV u w o:=by obtain⟨x,a,z,b,c,d,e⟩:=k;exact⟨x,(h.2.1 x).1 a,z,(h.2.2.1 z).1 b,c,d.mono fun y f=>(h.2.2.2 y).1 f,e⟩
theorem Alike.rel {t u:Fs} (h:Alike t u) (w o:List UInt8):RV t w o↔RV u w o:=⟨h.rel',h.symm.rel'⟩
def F6 (n s:Int):Prop:=0<=s/\s<n
def FR (t:Fs):Prop:=0<=t.n/\(∀x∈t.starts,F6 t.n x.st)/\(∀x∈t.ends,F6 t.n x.st)/\(∀x∈t.arcs,F6 t.n x.fr/\F6 t.n x.to)
theorem Way.ok {t:Fs} (h:FR t) {s z:Int} {w o:List UInt8} (k:Way t.arcs s w o z) (a:F6 t.n s):F6 t.n z:=by
 induction k with
 | nil s=>exact a
 | cons x hx _ _ _ ih=>exact ih (h.2.2.2 x hx).2
def St.both (s t:St):St:=⟨s.a &&& t.a,s.b &&& t.b,s.c &&& t.c,s.d &&& t.d⟩
def St.none:St:=⟨0,0,0,0⟩
theorem St.both_m (s t:St) (b:Nat):(s.both t).m b=(s.m b && t.m b):=by
 unfold St.m St.w St.both;split
 .exact FJ ..
 split
 .exact FJ ..
 split
 .exact FJ ..
 split
 .exact FJ ..
 .simp
theorem St.none_m (b:Nat):St.none.m b=false:=by
 unfold St.m St.w St.none;split
 .exact Nat.zero_testBit _
 split
 .exact Nat.zero_testBit _
 split
 .exact Nat.zero_testBit _
 split<;>exact Nat.zero_testBit _
structure Chain (a b c:Fs):Prop where
 starts:∀x,x∈c.starts↔∃q∈a.starts,∃r∈b.starts,∃v o,Way b.arcs r.st q.out.data.toList o v/\x.st=q.st*b.n+v/\x.out.data.toList=r.out.data.toList++o
 ends:∀x,x∈c.ends↔∃p∈a.ends,∃y,F6 b.n y/\∃v o,Way b.arcs y p.out.data.toList o v/\∃z∈b.ends,z.st=v/\x.st=p.st*b.n+y/\x.out.data.toList=o++z.out.data.toList
 arcs:∀e,e∈c.arcs↔∃x∈a.arcs,∃y,F6 b.n y/\∃v o,Way b.arcs y x.out.data.toList o v/\e.fr=x.fr*b.n+y /\
  ((x.cp=false/\e.to=x.to*b.n+v/\e.set=x.set/\e.out.data.toList=o/\e.cp=false) \/(x.cp=true/\∃u∈b.arcs,u.fr=v/\x.set.both u.set≠St.none/\e.to=x.to*b.n+u.to/\e.set=x.set.both u.set/\e.out.data.toList=o++u.out.data.toList/\e.cp=u.cp))
theorem Pt {n p q y z:Int} (a:F6 n y) (c:F6 n z) (h:p*n+y=q*n+z):p=q/\y=z:=by
 have d:0<n:=by unfold F6 at a;omega
 have e:(p-q)*n=z-y:=by rw[Int.sub_mul];omega
 have b:p-q=0:=by
  rcases Int.lt_trichotomy (p-q) 0 with h1|h1|h1
  .have:(p-q)*n<=-1*n:=Dz (by omega) (by omega);unfold F6 at a c;omega
  .exact h1
  .have:1*n<=(p-q)*n:=Dz (by omega) (by omega);unfold F6 at a c;omega
 rw[b]at e;omega
end
section
open Go.RowKit
def Lu (l:List Oper):Bool:=l.all fun o=>match o.op with|.defer _=>false|_=>true
theorem Lv {l:List Oper} (h:Lu l=true) {i:Nat} {o:Oper} (a:l.toArray[i]?=some o):∀c,o.op≠.defer c:=by
 intro c e;have b:o∈l:=by rw[CQ]at a;exact Cl a
 have:=CS.1 h o b;rw[e]at this;cases this
section
variable {F:Fence} {n:Nat} {P:Program} {r:Nat}
theorem Lw (o:Oper) (h:∀c,o.op≠.defer c) (a:Act) (w:World) (next:Act->World->Prop) (Q:Exit->Act->World->Prop):o.wpIn (F.inRound r) n P a w next Q=o.wpIn F n P a w next Q:=by unfold Oper.wpIn;rw[Oper.semAt_plain (F.inRound r) _ _ h,Oper.semAt_plain F _ _ h];rfl
theorem PJ {md:Region.Mode} {l:List Oper} (h:Lu l=true) {Q:Exit->Act->World->Prop}:∀fuel,wpAnyIn (F.inRound r) n P md l.toArray Q fuel=wpAnyIn F n P md l.toArray Q fuel
 | 0=>rfl
 | fuel+1=>by
  funext listed a w;unfold wpAnyIn;rw[PJ h fuel]
  have:∀i K,wpOpIn (F.inRound r) n P l.toArray Q i K a w=wpOpIn F n P l.toArray Q i K a w:=fun i K=>by
   unfold wpOpIn;cases b:l.toArray[i]? with
   | none=>rfl
   | some o=>simp only;rw[Lw o (Lv h b)];rfl
  simp only[this]
theorem JA {id:Nat} {Q:Exit->Act->World->Prop} {a:Act} {w:World} {l:List Oper} (e:P.follows .mixedOrders=true) (b:Region.lexB .any l.toArray=true) (f:Lu l=true) (h:wpQuietIn Fence.wide n P l.toArray (fun w'=>∃n,w'=w.drewN n) (fun c=>∀w',(∃n,w'=w.drewN n)->Q .normal c w') l a):(Code.region id l.toArray true).wpIn (Fence.wide.inRound r) n P Q a w:=by refine wpIn_region_any e ?_;rw[PJ f];simp only[Region.lexB,AW]at b;refine wpAnyIn_of_quiet (Q:=fun c=>∀w',(∃n,w'=w.drewN n)->Q .normal c w') rfl (fun _ w' d h=>h w' d) _ _ _ _ ⟨1,rfl⟩ ?_;have:=wpAnyQIn_lex (F:=Fence.wide) (n:=n) (C:=fun w'=>∃n,w'=w.drewN n) (md:=.any) b.1 l 0 (Array.replicate l.toArray.size false) a (by simp) (by simpa using b.2) h;simpa using this
end
theorem Mv (w:World) (n:Nat):Below w.heap.size w (w.drewN n):=⟨rfl,rfl,rfl,AD _,fun _ _=>rfl⟩
end
section
open Go.RowKit
def E6:List UInt8->List UInt8->Nat
 | a::l,b::m=>if a=b then E6 l m+1 else 0
 | _,_=>0
theorem Jd:∀(a b:List UInt8),E6 a b<=a.length
 | [],_=>by simp[E6]
 | _::_,[]=>by simp[E6]
 | x::l,y::m=>by have:=Jd l m;unfold E6;split<;>simp<;>omega
theorem RZ:∀(a b:List UInt8),E6 a b=E6 b a
 | [],[]=>rfl
 | [],_::_=>rfl
 | _::_,[]=>rfl
 | x::l,y::m=>by
  have:=RZ l m;unfold E6;by_cases h:x=y
  .simp [h,this]
  .rw [AP h,AP (fun e=>h e.symm)]
theorem RH (a b:List UInt8):E6 a b<=b.length:=by rw[RZ];exact Jd b a
theorem Si:∀(a b:List UInt8) (i:Nat),i<=a.length->i<=b.length->(∀j,j<i->a[j]?=b[j]?)->(∀(h:i<a.length) (c:i<b.length),a[i]≠b[i])->E6 a b=i
 | [],_,i,h,_,_,_=>by simp at h;subst h;simp[E6]
 | _::_,[],i,_,h,_,_=>by simp at h;subst h;simp[E6]
 | x::l,y::m,0,_,_,_,hn=>by have:=hn (by simp) (by simp);simp at this;simp[E6,this]
 | x::l,y::m,i+1,ha,hb,he,hn=>by have h0:=he 0 (by omega);simp at h0;have:=Si l m i (by simpa using ha) (by simpa using hb) (fun j d=>by simpa using he (j+1) (by omega)) (fun h c e=>hn (by simpa using h) (by simpa using c) (by simpa using e));simp[E6,h0,this]
theorem Ra (a b:ByteArray) (w:World) (n:a.size<=maxLen) (o:b.size<=maxLen) :Calls Tryz.prog 108 #[.string a,.string b] w (C7 (.int .i64 (E6 a.data.toList b.data.toList)) w):=by
 unfold maxLen at n o;go_enter Tryz.func108,Tryz.ntmps108;go_wp2
 all_goals
  go_loopw [6,13] (fun _ i wr=>∃k:Nat,k<=a.size/\k<=b.size/\i=.int .i64 k/\(∀j,j<k->a.data.toList[j]?=b.data.toList[j]?)/\Below w.heap.size w wr) (fun _ i _=>a.size-(intOf i).toNat)
  case atStart=>exact⟨0,by omega,by omega,rfl,by omega,AH _ _⟩
  case round=>
   obtain⟨k,l,c,rfl,m,f⟩:=hrel;have H:=AB m;clear m;by_cases d:k<a.size/\k<b.size
   .obtain ⟨h1,h2⟩:=d
    go_wp2
    go_quiet (fail)
    go_wp2
    .go_ret
     refine⟨?_,below_drewN f _⟩;have g:a[k]≠b[k]:=by rename_i h;exact fun e=>by simp[e]at h
     rw[Si a.data.toList b.data.toList k (by simpa using l) (by simpa using c) H.out (fun _ _=>g)];rfl
    .have p:a[k]=b[k]:=by rename_i h;exact u8_eq (by simpa using h)
     go_roundw
     case rel=>exact⟨k+1,by omega,by omega,by go_num,fun j q=>by
      rcases Nat.lt_succ_iff_lt_or_eq.1 q with h|rfl
      .exact H.out j h
      .exact (Pu a j h1).trans (p▸(Pu b j h2).symm),below_drewN f _⟩
     case measure=>simp[intOf];omega
   .go_wp2;go_ret;refine⟨?_,f⟩;rw[Si a.data.toList b.data.toList k (by simpa using l) (by simpa using c) H.out (fun h r=>absurd ⟨by simpa using h,by simpa using r⟩ d)];simp;omega
theorem PX (a b:ByteArray) (w:World) (f:a.size<=maxLen) (g:b.size<=maxLen) :Calls Tryz.prog 77 #[.string a,.string b] w (C7 (.tuple #[.string (a.extract (E6 a.data.toList b.data.toList) a.size),.string (b.extract (E6 a.data.toList b.data.toList) b.size)]) w):=by
 have h1:=Jd a.data.toList b.data.toList;have h2:=RH a.data.toList b.data.toList;have c:=f;have d:=g;unfold maxLen at c d;simp only[FL,ByteArray.size_data]at h1 h2;go_enter Tryz.func77,Tryz.ntmps77
 go_wp2_with (go_at_call 108;refine(Ra _ _ _ f g).mono ?_;rintro e w' ⟨rfl,i⟩)
 go_quiet (fail)
 go_wp2
 go_ret2
 exact⟨rfl,below_drewN i _⟩
def Jp (s:ByteArray) (l:List ByteArray):ByteArray:=l.foldl (fun s t=>s.extract 0 (E6 s.data.toList t.data.toList)) s
theorem Rb (s:ByteArray) (l:List ByteArray) (x:ByteArray):Jp s (l++[x])=(Jp s l).extract 0 (E6 (Jp s l).data.toList x.data.toList):=by simp[Jp]
theorem Tk (A:Option Addr) (c:Nat) (s:ByteArray) (l:List ByteArray) (w:World) (q:Reads w w.heap.size 1 A (l.length+1) ((s::l).map Value.string)) (r:∀x∈s::l,x.size<=maxLen) (t:l.length+1<=c) (z:c<=maxLen) :Calls Tryz.prog 94 #[.slice A (l.length+1:Nat) c] w (C7 (.string (Jp s l)) w):=by
 obtain⟨g,u,rfl,_,v,a⟩:=q.at_ (k:=0) (by omega);simp only[DO,A_,Dp]at v;subst v;have B:w.cell? g=some (.string s):=by simpa[Addr.add]using a
 have j:s.size<=maxLen:=r s (by simp);clear a;unfold maxLen at z;go_enter Tryz.func94,Tryz.ntmps94;have D:(((l.length:Nat):Int)+1==0)=false:=by rw[El];omega
 go_wp2
 all_goals
  go_loopw [3,5,15] (fun x _ i wr=>∃k:Nat,k<=l.length/\i=.int .i64 k/\x=.string (Jp s (l.take k))/\(Jp s (l.take k)).size<=maxLen/\Below w.heap.size w wr) (fun _ _ i _=>l.length-(intOf i).toNat)
  case atStart=>exact⟨0,by omega,rfl,by simp[Jp],by simpa[Jp]using j,AH _ _⟩
  case round=>
   obtain⟨k,E,rfl,rfl,b,m⟩:=hrel;by_cases d:k<l.length
   .first
    | (exfalso;omega)
    | (have y:=q.below m
       have C:wr.cell? ⟨g.block,g.off+1+k,none⟩=some (.string l[k]):=by obtain⟨_,e,_,t⟩:=y.2 (by omega);cases e;have:=t (k+1) (.string l[k]) (by simp[d]);simpa[Addr.add,Dx,Nat.add_comm 1 k]using this
       have n:l[k].size<=maxLen:=r _ (by simp);have o:=Jd (Jp s (l.take k)).data.toList l[k].data.toList;simp only[FL,ByteArray.size_data]at o;clear y
       go_wp2_with (go_at_call 108;refine(Ra _ _ _ b n).mono ?_;rintro e w' ⟨rfl,p⟩)
       go_roundw
       case rel=>
        have f:Jp s (l.take (k+1))=(Jp s (l.take k)).extract 0 (E6 (Jp s (l.take k)).data.toList l[k].data.toList):=by rw[Bq d,Rb]
        exact⟨k+1,by omega,by go_num,by rw[f],by rw[f];simp only[ByteArray.size_extract];omega,Lb m p⟩
       case measure=>simp[intOf];omega)
   .have f:l.take k=l:=BX (by omega);rw[f]at b ⊢;go_wp2;go_ret;exact⟨rfl,m⟩
end
end Go.Proofs.YtcondkihpmmnnaaGreatDoor
