/- Lemmas, part 5 of 50. No condition. -/
import Derived.Test.YtcondkihpmmnnaaGreatDoorTwin04
import Derived.Lib.Bytealg
import Derived.Lib.Small
set_option maxRecDepth 100000
set_option maxHeartbeats 16000000
namespace Go.Proofs.YtcondkihpmmnnaaGreatDoor
section
open Go.RowKit Go.Sort
section
variable {α:Type} {enc:α->List Value} {k:Nat}
def B_ (enc:α->List Value) (l:List α):List Value:=l.flatMap enc
theorem Fu (a:∀x,(enc x).length=k) (l:List α):(B_ enc l).length=l.length*k:=by
 induction l with
 | nil=>simp[B_]
 | cons x l ih=>have e:B_ enc (x::l)=enc x++B_ enc l:=rfl;rw[e,AJ,ih,a,Bn,EH,Nat.add_comm]
theorem Ts (l m:List α):B_ enc (l++m)=B_ enc l++B_ enc m:=by simp[B_]
theorem Yy (x:α):B_ enc [x]=enc x:=by simp[B_]
theorem Ej (l:List α) (x:α):B_ enc (l++[x])=B_ enc l++enc x:=by rw[Ts,Yy]
theorem If (a:∀x,(enc x).length=k) (l:List α) (d:α) (j i:Nat) (b:j<l.length) (hi:i<k):(B_ enc l)[j*k+i]?=(enc (l.getD j d))[i]?:=by
 induction l generalizing j with
 | nil=>simp at b
 | cons x l ih=>
  have e:B_ enc (x::l)=enc x++B_ enc l:=rfl;rw[e];cases j with
  | zero=>rw[Bi (by rw[a];omega),Nat.zero_mul,C8];rfl
  | succ j=>have h1:(j+1)*k=j*k+k:=EH j k;rw[CT (by rw[a];omega),a,show(j+1)*k+i-k=j*k+i by omega];have:=ih j (by simpa using b);rw[this];rfl
theorem E9 {w:World} {B n:Nat} {A:Option Addr} {l:List α} (b:∀x,(enc x).length=k) (h0:0<k) (m:Reads w B k A n (B_ enc l)) (d:α) (j:Nat) (s:j<n) :∃g o,A=some ⟨g,o,none⟩/\g<B/\∀i u,(enc (l.getD j d))[i]?=some u->w.cell? ⟨g,o+(j*k+i),none⟩=some u:=by
 have p:=m.1;rw[Fu b]at p;have t:l.length=n:=Nat.eq_of_mul_eq_mul_right h0 p;obtain⟨c,e,r,q⟩:=m.2 (by omega);have a:0<(enc (l.getD 0 d)).length:=by rw[b];exact h0
 have h00:=q (0*k+0) _ ((If b l d 0 0 (by omega) h0).trans (AG a));rw[show c.add (0*k+0)=c by simp[Addr.add]]at h00;have es:=OX h00;refine⟨c.block,c.off,by rw[e,<-es],r,fun i u f=>?_⟩
 have hi:i<k:=by
  rcases BF i (enc (l.getD j d)).length with h|h
  .rw [b]at h;exact h
  .rw [AY h]at f;cases f
 have:=q (j*k+i) u (by rw[If b l d j i (by omega) hi];exact f);rw[es,Gq]at this;exact this
theorem FE {w:World} {B n:Nat} {A:Option Addr} {l:List α} (b:∀x,(enc x).length=k) (h0:0<k) (c:Reads w B k A n (B_ enc l)):l.length=n:=by have a:=c.1;rw[Fu b]at a;exact Nat.eq_of_mul_eq_mul_right h0 a
end
theorem KR (w:World) (xs:List Value) (t:TypeId) (_h:0<xs.length) :Reads (w.alloc (.cells xs.toArray t)) (w.alloc (.cells xs.toArray t)).heap.size 1 (some ⟨w.heap.size,0,none⟩) xs.length xs:=by refine⟨by simp,fun _=>⟨_,rfl,by simp,fun j u a=>?_⟩⟩;have b:=BL.new w t xs.toArray;have:=b.cell j;rw[show(⟨w.heap.size,0,none⟩:Addr).add j=⟨w.heap.size,j,none⟩from by unfold Addr.add;split<;>simp_all];rw[this];simpa using a
def CL (x:Tp):List Value:=[.int .i64 x.st,.string x.out]
def Cx (x:Ar):List Value:=[.int .i64 x.fr,.int .i64 x.to,.int .u64 (x.set.a:Int),.int .u64 (x.set.b:Int),.int .u64 (x.set.c:Int),.int .u64 (x.set.d:Int),.string x.out,.bool x.cp]
theorem Dg (x:Tp):(CL x).length=2:=rfl
theorem Ds (x:Ar):(Cx x).length=8:=rfl
theorem GH (x:Tp):∀v∈CL x,v.oneCell'=true:=by intro v a;simp[CL]at a;rcases a with rfl|rfl<;>rfl
theorem ID (x:Ar):∀v∈Cx x,v.oneCell'=true:=by intro v a;simp[Cx]at a;rcases a with rfl|rfl|rfl|rfl|rfl|rfl|rfl|rfl<;>rfl
def DI:Tp:=⟨0,ByteArray.empty⟩
def Cq:Ar:=⟨0,0,⟨0,0,0,0⟩,ByteArray.empty,false⟩
theorem Dh {w:World} {B n:Nat} {A:Option Addr} {l:List Tp} (b:Reads w B 2 A n (B_ CL l)) (j:Nat) (c:j<n) :∃g o,A=some ⟨g,o,none⟩/\g<B/\w.cell? ⟨g,o+j*2,none⟩=some (.int .i64 (l.getD j DI).st)/\w.cell? ⟨g,o+j*2+1,none⟩=some (.string (l.getD j DI).out):=by obtain⟨g,o,e,d,a⟩:=E9 Dg (by decide) b DI j c;exact⟨g,o,e,d,a 0 _ rfl,a 1 _ rfl⟩
theorem Di {w:World} {B n:Nat} {A:Option Addr} {l:List Ar} (i:Reads w B 8 A n (B_ Cx l)) (j:Nat) (k:j<n) :∃g o,A=some ⟨g,o,none⟩/\g<B/\w.cell? ⟨g,o+j*8,none⟩=some (.int .i64 (l.getD j Cq).fr)/\w.cell? ⟨g,o+j*8+1,none⟩=some (.int .i64 (l.getD j Cq).to) /\w.cell? ⟨g,o+j*8+2,none⟩=some (.int .u64 ((l.getD j Cq).set.a:Int))/\w.cell? ⟨g,o+j*8+3,none⟩=some (.int .u64 ((l.getD j Cq).set.b:Int)) /\w.cell? ⟨g,o+j*8+4,none⟩=some (.int .u64 ((l.getD j Cq).set.c:Int))/\w.cell? ⟨g,o+j*8+5,none⟩=some (.int .u64 ((l.getD j Cq).set.d:Int)) /\w.cell? ⟨g,o+j*8+6,none⟩=some (.string (l.getD j Cq).out)/\w.cell? ⟨g,o+j*8+7,none⟩=some (.bool (l.getD j Cq).cp):=by obtain⟨g,o,e,m,f⟩:=E9 Ds (by decide) i Cq j k;exact⟨g,o,e,m,f 0 _ rfl,f 1 _ rfl,f 2 _ rfl,f 3 _ rfl,f 4 _ rfl,f 5 _ rfl,f 6 _ rfl,f 7 _ rfl⟩
def MJ (x:Tp):Prop:=-9223372036854775808<=x.st/\x.st<=9223372036854775807/\x.out.size<=maxLen
def OU (s:St):Prop:=s.a<18446744073709551616/\s.b<18446744073709551616/\s.c<18446744073709551616/\s.d<18446744073709551616
def Th (x:Ar):Prop:=-9223372036854775808<=x.fr/\x.fr<=9223372036854775807/\-9223372036854775808<=x.to/\x.to<=9223372036854775807/\OU x.set/\x.out.size<=maxLen
def EK (w:World) (B:Nat) (t:Fs) (v:Value):Prop:=∃A1 c1 A2 c2 A3 c3,v=.agg #[.int .i64 t.n,.slice A1 t.starts.length c1,.slice A2 t.ends.length c2,.slice A3 t.arcs.length c3] /\t.starts.length<=c1/\t.ends.length<=c2/\t.arcs.length<=c3/\c1<=maxLen/\c2<=maxLen/\c3<=maxLen /\ -9223372036854775808<=t.n/\t.n<=9223372036854775807 /\Reads w B 2 A1 t.starts.length (B_ CL t.starts)/\(∀x∈t.starts,MJ x) /\Reads w B 2 A2 t.ends.length (B_ CL t.ends)/\(∀x∈t.ends,MJ x) /\Reads w B 8 A3 t.arcs.length (B_ Cx t.arcs)/\(∀x∈t.arcs,Th x)
theorem EK.below {w w':World} {B:Nat} {t:Fs} {v:Value} (h:EK w B t v) (a:Below B w w'):EK w' B t v:=by obtain⟨b,c,d,e,f,g,rfl,h1,h2,h3,h4,h5,h6,h7,h8,i,j,k,l,m,n⟩:=h;exact⟨b,c,d,e,f,g,rfl,h1,h2,h3,h4,h5,h6,h7,h8,i.below a,j,k.below a,l,m.below a,n⟩
theorem EK.more {w:World} {B B':Nat} {t:Fs} {v:Value} (h:EK w B t v) (a:B<=B'):EK w B' t v:=by obtain⟨b,c,d,e,f,g,rfl,h1,h2,h3,h4,h5,h6,h7,h8,i,j,k,l,m,n⟩:=h;exact⟨b,c,d,e,f,g,rfl,h1,h2,h3,h4,h5,h6,h7,h8,i.more a,j,k.more a,l,m.more a,n⟩
def Ju (s n:Int):Bool:=decide (0<=s) && decide (s<n)
def Oa (n:Int) (x:Tp):Bool:=Ju x.st n && decide (x.out.size<=1024)
def Gz (l:List Tp) (n:Int):Bool:=decide (l.length<=1024) && l.all (Oa n)
def PO (n:Int) (x:Ar):Bool:=Ju x.fr n && Ju x.to n && (x.set != St.none) && decide (x.out.size<=1024)
def Dq (t:Fs):Bool:=decide (0<=t.n) && decide (t.n<=1024) && decide (t.arcs.length<=16384) && Gz t.starts t.n && Gz t.ends t.n && t.arcs.all (PO t.n)
def O1 (b:Bool):Int:=if b then 0 else 1
theorem Sn {s n:Int} (h:Ju s n=true):F6 n s:=by unfold Ju at h;simp at h;exact h
theorem Jv {t:Fs} (h:Dq t=true):FR t:=by
 unfold Dq Gz at h;simp only[AW,BB,CS]at h;obtain⟨⟨⟨⟨⟨h1,h2⟩,h3⟩,h4⟩,h5⟩,h6⟩:=h;refine⟨h1,fun x a=>?_,fun x a=>?_,fun x a=>?_⟩
 .have:=h4.2 x a;unfold Oa at this;rw[AW]at this;exact Sn this.1
 .have:=h5.2 x a;unfold Oa at this;rw[AW]at this;exact Sn this.1
 .have:=h6 x a;unfold PO at this;simp only[AW]at this;exact⟨Sn this.1.1.1,Sn this.1.1.2⟩
theorem Tt {α:Type} {p:α->Bool} {l:List α} (d:α) (k:Nat) (a:k<l.length) (h:p (l.getD k d)=false):l.all p=false:=by rw[List.all_eq_false];rw[AC,AG a]at h;exact⟨l[k],CI _,by simpa using h⟩
theorem Tu {α:Type} {p:α->Bool} {l:List α} (d:α) (k:Nat) (a:k<l.length) (h:p (l.getD k d)=true) (b:(l.take k).all p=true):(l.take (k+1)).all p=true:=by rw[AC,AG a]at h;rw[Bq a,Gj,b];simpa using h
end
section
open Go.RowKit Go.Sort
theorem Lc (x y:Int) (w:World):Calls Tryz.prog 83 #[.int .i64 x,.int .i64 y] w (fun e w'=>e=.returned (.int .i64 (Lib.compareInt x y))/\w=w'):=by
 unfold Lib.compareInt;by_cases h1:x<y
 .rw [AU h1];go_enter Tryz.func83,Tryz.ntmps83;go_wp2;go_ret;exact⟨rfl,rfl⟩
 .rw [AP h1]
  by_cases h2:x>y
  .rw [AU h2];go_enter Tryz.func83,Tryz.ntmps83;go_wp2;go_ret;exact⟨rfl,rfl⟩
  .rw [AP h2];go_enter Tryz.func83,Tryz.ntmps83;go_wp2;go_ret;exact⟨rfl,rfl⟩
theorem Tv (x y:Int) (w:World):Calls Tryz.prog 117 #[.int .u64 x,.int .u64 y] w (fun e w'=>e=.returned (.int .i64 (Lib.compareInt x y))/\w=w'):=by
 unfold Lib.compareInt;by_cases h1:x<y
 .rw [AU h1];go_enter Tryz.func117,Tryz.ntmps117;go_wp2;go_ret;exact⟨rfl,rfl⟩
 .rw [AP h1]
  by_cases h2:x>y
  .rw [AU h2];go_enter Tryz.func117,Tryz.ntmps117;go_wp2;go_ret;exact⟨rfl,rfl⟩
  .rw [AP h2];go_enter Tryz.func117,Tryz.ntmps117;go_wp2;go_ret;exact⟨rfl,rfl⟩
theorem I1:∀a b:List UInt8,(Lib.compareBytes a b=-1/\Op.bytesLess a b=true/\Op.bytesLess b a=false/\(a==b)=false)\/(Lib.compareBytes a b=0/\Op.bytesLess a b=false/\Op.bytesLess b a=false/\(a==b)=true)\/(Lib.compareBytes a b=1/\Op.bytesLess a b=false/\Op.bytesLess b a=true/\(a==b)=false)
 | [],[]=>.inr (.inl ⟨rfl,rfl,rfl,rfl⟩)
 | [],_::_=>.inl ⟨rfl,rfl,rfl,rfl⟩
 | _::_,[]=>.inr (.inr ⟨rfl,rfl,rfl,rfl⟩)
 | x::a,y::b=>by
  have c:=I1 a b;unfold Lib.compareBytes Op.bytesLess;rw[List.cons_beq_cons];by_cases h1:x<y
  .have h2:¬y<x:=UInt8.lt_asymm h1
   have h3:(y==x)=false:=by rw[El];rintro rfl;exact UInt8.lt_irrefl _ h1
   have h4:(x==y)=false:=by rw[El];rintro rfl;exact UInt8.lt_irrefl _ h1
   simp[h1,h2,h3,h4]
  .by_cases h2:y<x
   .have h3:(x==y)=false:=by rw[El];rintro rfl;exact UInt8.lt_irrefl _ h2
    simp[h1,h2,h3]
   .have h3:x=y:=UInt8.le_antisymm (UInt8.not_lt.1 h2) (UInt8.not_lt.1 h1);subst h3;simpa[h1]using c
def Ob (a b:ByteArray):Int:=Lib.compareBytes a.data.toList b.data.toList
theorem O2 (x y:ByteArray) (w:World):Calls Tryz.prog 120 #[.string x,.string y] w (fun e w'=>e=.returned (.int .i64 (Ob x y))/\w=w'):=by
 have h:=I1 x.data.toList y.data.toList;unfold Ob;rw[<-DT,<-DT]at h ⊢;generalize Lib.compareBytes x.toList y.toList=r at *;rcases h with⟨rfl,h1,h2,h3⟩|⟨rfl,h1,h2,h3⟩|⟨rfl,h1,h2,h3⟩
 all_goals
  go_enter Tryz.func120,Tryz.ntmps120;go_wp2;go_ret;exact⟨rfl,rfl⟩
def OV:List Int->Int
 | []=>0
 | x::l=>if x≠0 then x else OV l
theorem MK:∀(l:List Int) (k:Nat),(∀x∈l.take k,x=0)->OV l=OV (l.drop k)
 | l,0,_=>rfl
 | [],k+1,_=>rfl
 | x::l,k+1,h=>by rw[Az,<-MK l k fun y a=>h y (by simp[a])];show(if x≠0 then x else OV l)=_;rw[AP (by simpa using h x (by simp))]
theorem Yz (A:Option Addr) (n c B:Nat) (l:List Int) (w:World) (r:Reads w B 1 A n (l.map (Value.int .i64))) (z:n<=1000) :Calls Tryz.prog 82 #[.slice A n c] w (fun e w'=>e=.returned (.int .i64 (OV l))/\w=w'):=by
 have C:l.length=n:=by have:=r.1;simpa using this
 go_enter Tryz.func82,Tryz.ntmps82;go_wp2
 go_loop [8] (fun i=>∃k:Nat,k<=n/\i=.int .i64 k/\∀x∈l.take k,x=0) (fun i=>n-(intOf i).toNat)
 case atStart=>exact⟨0,by omega,rfl,fun x a=>by simp at a⟩
 case round=>
  obtain⟨k,D,rfl,f⟩:=hrel;by_cases m:k<n
  .have t:(0:Int)<=(k:Int):=by omega
   have u:(k:Int)<(n:Int):=by omega
   obtain⟨g,o,rfl,v,E⟩:=C6 (d:=0) r k m;have b:=MK l k f;have s:l.drop k=l.getD k 0::l.drop (k+1):=by rw[AC,AG (by omega)];exact Ew (by omega)
   rw[s]at b
   have p:l.getD k 0=0->∀x∈l.take (k+1),x=0:=fun h0 x a=>by
    rw[Bq (by omega),Bj]at a;rcases a with a|a
    .exact f x a
    .rw [AC,AG (by omega)]at h0;simp at a;rw[a];exact h0
   clear s f;generalize l.getD k 0=x at *;by_cases h0:x=0
   .have y:=AB (p h0)
    clear b p;subst h0;go_wp2
    go_round
    case rel=>exact⟨k+1,by omega,by go_num,y.out⟩
    case measure=>simp[intOf];omega
   .have j:OV l=x:=by rw[b];unfold OV;rw[AU h0]
    have q:=AB j;clear b j p;go_wp2;go_ret;refine⟨?_,rfl⟩;rw[q.out];rfl
  .have e:k=n:=by omega
   subst e;have b:OV l=0:=by rw[MK l k f,List.drop_of_length_le (by omega)];rfl
   have q:=AB b;clear b f;go_wp2;go_ret;refine⟨?_,rfl⟩;rw[q.out];rfl
def So (b:Bool):Int:=if b then 1 else 0
theorem VO (b:Bool) (w:World):Calls Tryz.prog 89 #[.bool b] w (fun e w'=>e=.returned (.int .i64 (So b))/\w=w'):=by
 cases b
 all_goals
  go_enter Tryz.func89,Tryz.ntmps89;go_wp2;go_ret;exact⟨rfl,rfl⟩
def cmpL (l m:List Int):Int:=OV (List.zipWith Lib.compareInt l m)
theorem Sp (x y:Int):-1<=Lib.compareInt x y/\Lib.compareInt x y<=1:=by
 unfold Lib.compareInt;split
 .omega
 .split<;>omega
theorem Sq (A z:Option Addr) (n c G B:Nat) (l m:List Int) (w:World) (C:Reads w B 1 A n (l.map (Value.int .u64))) (f:Reads w B 1 z n (m.map (Value.int .u64))) (Q:n<=1000) :Calls Tryz.prog 88 #[.slice A n c,.slice z n G] w (fun e w'=>e=.returned (.int .i64 (cmpL l m))/\w=w'):=by
 have H:l.length=n:=by have:=C.1;simpa using this
 have I:m.length=n:=by have:=f.1;simpa using this
 go_enter Tryz.func88,Tryz.ntmps88;go_wp2
 go_loop [11] (fun i=>∃k:Nat,k<=n/\i=.int .i64 k/\∀x∈(List.zipWith Lib.compareInt l m).take k,x=0) (fun i=>n-(intOf i).toNat)
 case atStart=>exact⟨0,by omega,rfl,fun x a=>by simp at a⟩
 case round=>
  obtain⟨k,R,rfl,j⟩:=hrel;have s:(List.zipWith Lib.compareInt l m).length=n:=by rw[List.length_zipWith,H,I];omega
  by_cases p:k<n
  .have J:(0:Int)<=(k:Int):=by omega
   have K:(k:Int)<(n:Int):=by omega
   have L:¬n<=k:=by omega
   obtain⟨g,o,rfl,M,S⟩:=C6 (d:=0) C k p;obtain⟨T,U,rfl,D,d0⟩:=C6 (d:=0) f k p;have b:=MK _ k j;have t:(List.zipWith Lib.compareInt l m)[k]'(by omega)=Lib.compareInt (l.getD k 0) (m.getD k 0):=by rw[List.getElem_zipWith,AC,AC,AG (by omega),AG (by omega)];rfl
   have E:(List.zipWith Lib.compareInt l m).drop k=Lib.compareInt (l.getD k 0) (m.getD k 0)::(List.zipWith Lib.compareInt l m).drop (k+1):=by rw[<-t];exact Ew (by omega)
   rw[E]at b
   have u:Lib.compareInt (l.getD k 0) (m.getD k 0)=0->∀x∈(List.zipWith Lib.compareInt l m).take (k+1),x=0:=fun h0 x a=>by
    rw[Bq (by omega),Bj]at a;rcases a with a|a
    .exact j x a
    .simp only[t,AM]at a;rw[a];exact h0
   have F:=fun W=>Tv (l.getD k 0) (m.getD k 0) W
   have N:=Sp (l.getD k 0) (m.getD k 0);clear E j t s;generalize Lib.compareInt (l.getD k 0) (m.getD k 0)=r at *;generalize l.getD k 0=x at *;generalize m.getD k 0=y at *;by_cases h0:r=0
   .have O:=AB (u h0)
    clear b u;subst h0
    go_wp2_with (go_at_call 117;refine(F _).mono ?_;rintro e P ⟨rfl,rfl⟩)
    go_round
    case rel=>exact⟨k+1,by omega,by go_num,O.out⟩
    case measure=>simp[intOf];omega
   .have q:cmpL l m=r:=by unfold cmpL;rw[b];unfold OV;rw[AU h0]
    have v:=AB q;have V:((r:Int) != 0)=true:=by simpa using h0
    clear b q u
    go_wp2_with (go_at_call 117;refine(F _).mono ?_;rintro e P ⟨rfl,rfl⟩)
    go_ret;refine⟨?_,rfl⟩;rw[v.out];rfl
  .have e:k=n:=by omega
   subst e;have b:cmpL l m=0:=by unfold cmpL;rw[MK _ k j,List.drop_of_length_le (by omega)];rfl
   have v:=AB b;clear b j;go_wp2;go_ret;refine⟨?_,rfl⟩;rw[v.out];rfl
end
end Go.Proofs.YtcondkihpmmnnaaGreatDoor
