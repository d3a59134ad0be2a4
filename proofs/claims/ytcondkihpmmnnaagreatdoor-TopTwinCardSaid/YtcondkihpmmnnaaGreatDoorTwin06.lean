/- Lemmas, part 6 of 50. No condition. -/
import Derived.Laws.BitsAllLaws
import Derived.Test.YtcondkihpmmnnaaGreatDoorTwin05
import Derived.ChangeKeysEq
set_option maxRecDepth 100000
set_option maxHeartbeats 16000000
namespace Go.Proofs.YtcondkihpmmnnaaGreatDoor
section
open Go.RowKit
def Iy (g:Nat->Bool):Nat->Nat
 | 0=>0
 | n+1=>Iy g n+(if g n then 2^n else 0)
theorem OY (g:Nat->Bool):∀n,Iy g n<2^n
 | 0=>by simp[Iy]
 | n+1=>by have:=OY g n;unfold Iy;rw[Nat.pow_succ];split<;>omega
theorem MG (g:Nat->Bool):∀n k,(Iy g n).testBit k=(decide (k<n) && g k)
 | 0,k=>by simp[Iy]
 | n+1,k=>by
  have d:=OY g n;have c:=MG g n k;unfold Iy;by_cases a:g n=true
  .rw [AU a,Nat.add_comm]
   by_cases b:k=n
   .subst b;rw[Nat.testBit_two_pow_add_eq,Nat.testBit_lt_two_pow d];simp[a]
   .rcases BF k n with h|h
    .rw [Nat.testBit_two_pow_add_gt h,c];simp[h,Nat.lt_succ_of_lt h]
    .have h2:2^n+Iy g n<2^k:=by
       have:2^(n+1)<=2^k:=Nat.pow_le_pow_right (by decide) (by omega);rw[Nat.pow_succ]at this;omega
     rw[Nat.testBit_lt_two_pow h2];simp;omega
  .rw [AP a,D0,c]
   by_cases b:k=n
   .subst b;simp at a;simp[a]
   .have:(k<n+1)=(k<n):=by apply propext;omega
    simp only[this]
def word (m:Nat->Bool) (i:Nat):Nat:=Iy (fun k=>m (64*i+k)) 64
theorem FD (m:Nat->Bool) (i:Nat):word m i<18446744073709551616:=OY _ 64
theorem Cm (m:Nat->Bool) (i k:Nat):(word m i).testBit k=(decide (k<64) && m (64*i+k)):=MG _ 64 k
theorem Pv {m m':Nat->Bool} {i:Nat} (h:∀k,k<64->m (64*i+k)=m' (64*i+k)):word m i=word m' i:=by
 apply Dd;intro k;rw[Cm,Cm];by_cases a:k<64
 .rw [h k a]
 .simp [a]
theorem Jc (n:Nat) (h:n<18446744073709551616) (m:Nat->Bool) (i:Nat) (b:∀k,k<64->m (64*i+k)=n.testBit k):word m i=n:=by
 apply Dd;intro k;rw[Cm];by_cases a:k<64
 .rw [b k a];simp[a]
 .have:n<2^k:=Aj h (by have:(2:Nat)^64<=2^k:=Nat.pow_le_pow_right (by decide) (by omega)
                       simpa using this)
  rw[Nat.testBit_lt_two_pow this];simp[a]
def JW (m k:Nat->Bool):Nat->Bool:=fun b=>m b && k b
def Gy (l:List Nat):Nat->Bool:=fun b=>l.contains b
theorem RW (m k:Nat->Bool) (i:Nat):bits .and .u64 (word m i:Int) (word k i:Int)=(word (JW m k) i:Int):=by rw[u64_and_nat _ _ (FD m i) (FD k i)];congr 1;apply Dd;intro j;rw[FJ,Cm,Cm,Cm];unfold JW;cases decide (j<64)<;>simp
theorem X0T (n k:Nat) (h:n<18446744073709551616):(bits .and .u64 ((n:Int) / 2^k) 1==1)=n.testBit k:=by
 have e:((n:Int) / 2^k)=((n / 2^k:Nat):Int):=by rw[Int.natCast_ediv,Int.natCast_pow];rfl
 have a:n / 2^k<18446744073709551616:=Du (Nat.div_le_self _ _) h;rw[e];have:=u64_and_nat (n / 2^k) 1 a (by decide);rw[show(1:Int)=((1:Nat):Int)from rfl,this,Nat.and_one_is_mod];rw[Nat.testBit_eq_decide_div_mod_eq,DS,DF,BB];omega
theorem Yq (m:Nat->Bool) (b:Nat):(bits .and .u64 (((word m (b / 64):Nat):Int) / 2^(b%64)) 1==1)=m b:=by rw[X0T _ _ (FD _ _),Cm,Ft];have:b%64<64:=Cz _ (by decide);simp[this]
def Pw (n m:Nat->Bool) (k:Nat):Nat->Bool:=fun b=>if b<64*k then n b else m b
theorem KN (n m:Nat->Bool) (k i:Nat) (h:i<k):word (Pw n m k) i=word n i:=Pv fun j a=>by unfold Pw;rw[AU (by omega)]
theorem KO (n m:Nat->Bool) (k i:Nat) (h:k<=i):word (Pw n m k) i=word m i:=Pv fun j a=>by unfold Pw;rw[AP (by omega)]
theorem RF (n m:Nat->Bool) (i:Nat):word (Pw n m 0) i=word m i:=KO n m 0 i (AN _)
def Es (m:Nat->Bool):Array Value:=#[.int .u64 ((word m 0:Nat):Int),.int .u64 ((word m 1:Nat):Int),.int .u64 ((word m 2:Nat):Int),.int .u64 ((word m 3:Nat):Int)]
theorem VE (m:Nat->Bool) (i:Nat) (h:i<4):(Es m)[i]?=some (.int .u64 ((word m i:Nat):Int)):=by
 match i,h with
 | 0,_=>rfl
 | 1,_=>rfl
 | 2,_=>rfl
 | 3,_=>rfl
theorem Nv {m m':Nat->Bool} (h:∀i,i<4->word m i=word m' i):Es m=Es m':=by unfold Es;rw[h 0 (by decide),h 1 (by decide),h 2 (by decide),h 3 (by decide)]
theorem Px (m m':Nat->Bool) (i:Nat) (h:i<4) (h2:∀j,j≠i->word m' j=word m j) :(Es m).setIfInBounds i (.int .u64 ((word m' i:Nat):Int))=Es m':=by
 match i,h with
 | 0,_=>simp[Es,h2]
 | 1,_=>simp[Es,h2]
 | 2,_=>simp[Es,h2]
 | 3,_=>simp[Es,h2]
theorem VF (n m:Nat->Bool) (k:Nat) (h:k<4):(Es (Pw n m k)).setIfInBounds k (.int .u64 ((word n k:Nat):Int))=Es (Pw n m (k+1)):=by
 have e:word n k=word (Pw n m (k+1)) k:=(KN n m (k+1) k (by omega)).symm;rw[e];refine Px _ _ k h fun j a=>?_
 rcases BF j k with h1|h1
 .rw [KN _ _ _ _ h1,KN _ _ _ _ (by omega)]
 .rw [KO _ _ _ _ h1,KO _ _ _ _ (by omega)]
def Py (m:Nat->Bool) (b:Nat):Nat->Bool:=fun x=>m x || x==b
theorem PN (b k:Nat) (a:b<64):(2^b:Nat).testBit k=(decide (k<64) && (k==b)):=by rw[Nat.testBit_two_pow,DS,AW,BB,BB,DF];omega
theorem Yr (b:Nat) (a:b<64):IntKind.u64.wrap ((2:Int)^b)=((2^b:Nat):Int):=by
 have h:(2:Nat)^b<2^64:=Nat.pow_lt_pow_right (by decide) a;have e:((2:Int)^b)=((2^b:Nat):Int):=by rw[Int.natCast_pow];rfl
 have h2:(2:Nat)^64=18446744073709551616:=rfl;rw[h2]at h;rw[e,EN];generalize (2:Nat)^b=p at h ⊢;omega
theorem RG (m:Nat->Bool) (b:Nat):bits .or .u64 ((word m (b / 64):Nat):Int) (IntKind.u64.wrap ((2:Int)^(b%64)))=((word (Py m b) (b / 64):Nat):Int):=by
 have c:b%64<64:=Cz _ (by decide);have h:(2:Nat)^(b%64)<18446744073709551616:=by have:=Nat.pow_lt_pow_right (a:=2) (by decide) c;have h2:(2:Nat)^64=18446744073709551616:=rfl;omega
 rw[Yr _ c,u64_or_nat _ _ (FD m _) h];congr 1;apply Dd;intro j;rw[Nat.testBit_or,Cm,Cm,PN _ _ c];unfold Py;have e:(64*(b / 64)+j==b)=(j==b%64):=by rw[DS,DF,DF];omega
 rw[e];cases decide (j<64)<;>simp
theorem Pz (m:Nat->Bool) (b j:Nat) (h:j≠b / 64):word (Py m b) j=word m j:=
 Pv fun k a=>by
  unfold Py;have:(64*j+k==b)=false:=by rw[El];omega
  rw[this,Bool.or_false]
theorem VG (m:Nat->Bool) (b:Nat) (h:b<256):(Es m).setIfInBounds (b / 64) (.int .u64 (bits .or .u64 ((word m (b / 64):Nat):Int) (IntKind.u64.wrap ((2:Int)^(b%64)))))=Es (Py m b):=by rw[RG];exact Px _ _ _ (by omega) fun j a=>Pz m b j a
theorem Ys (l:List Nat) (b:Nat):Gy (l++[b])=Py (Gy l) b:=by funext x;simp only[Gy,Py,List.contains_eq_mem,Bj,AM];rw[DS];simp
def pw (k:Nat):Nat:=2^k
theorem X1O (k:Nat):0<pw k:=Nat.pow_pos (by decide)
theorem pw_lt (k:Nat) (h:k<64):pw k<18446744073709551616:=by have:=Nat.pow_lt_pow_right (a:=2) (by decide) h;exact this
theorem X0U (k:Nat) (h:k<63):IntKind.u64.wrap (2*((pw k:Nat):Int))=((pw (k+1):Nat):Int):=by have a:=pw_lt (k+1) (by omega);have e:pw (k+1)=pw k*2:=Nat.pow_succ ..;rw[EN];rw[e]at a ⊢;omega
theorem XJ (m:Nat->Bool) (b:Nat):(((word m (b / 64):Nat):Int) / ((pw (b%64):Nat):Int)%2==1)=m b:=by have h:=Cm m (b / 64) (b%64);rw[Ft]at h;have:b%64<64:=Cz _ (by decide);rw[Nat.testBit_eq_decide_div_mod_eq]at h;simp only[this,decide_true,Bool.true_and]at h;rw[<-h];unfold pw;generalize (2:Nat)^(b%64)=p;generalize word m (b / 64)=x;rw[DS,DF,BB];rw[<-Int.natCast_ediv];omega
theorem VH (m:Nat->Bool) (b:Nat):((IntKind.u64.wrap (((word m (b / 64):Nat):Int) / ((pw (b%64):Nat):Int))).tmod 2==1)=m b:=by
 have a:=FD m (b / 64);have h1:word m (b / 64) / pw (b%64)<=word m (b / 64):=Nat.div_le_self _ _;have e:IntKind.u64.wrap (((word m (b / 64):Nat):Int) / ((pw (b%64):Nat):Int))=((word m (b / 64):Nat):Int) / ((pw (b%64):Nat):Int):=by rw[EN,<-Int.natCast_ediv];generalize word m (b / 64) / pw (b%64)=q at h1 ⊢;omega
 rw[e,Int.tmod_eq_emod_of_nonneg (by rw[<-Int.natCast_ediv];exact Int.natCast_nonneg _)];exact XJ m b
end
section
def Useful (t:Fs) (s:Int):Prop:=F6 t.n s/\(∃x∈t.starts,∃w o,Way t.arcs x.st w o s)/\(∃z∈t.ends,∃w o,Way t.arcs s w o z.st)
structure Trims (t u:Fs) (f:Int->Int):Prop where
 nn:0<=u.n
 use:∀s,F6 t.n s->(0<=f s↔Useful t s)
 lt:∀s,F6 t.n s->f s<u.n
 inj:∀s z,F6 t.n s->F6 t.n z->0<=f s->f s=f z->s=z
 sur:∀k,F6 u.n k->∃s,F6 t.n s/\f s=k
 starts:∀y,y∈u.starts↔∃x∈t.starts,0<=f x.st/\y=⟨f x.st,x.out⟩
 ends:∀y,y∈u.ends↔∃x∈t.ends,0<=f x.st/\y=⟨f x.st,x.out⟩
 arcs:∀e,e∈u.arcs↔∃x∈t.arcs,0<=f x.fr/\0<=f x.to/\e=⟨f x.fr,f x.to,x.set,x.out,x.cp⟩
section
variable {t u:Fs} {f:Int->Int}
theorem Useful.ahead {s z:Int} {w o:List UInt8} (b:FR t) (c:Useful t s) (k:Way t.arcs s w o z) (d:∃y∈t.ends,∃w o,Way t.arcs z w o y.st):Useful t z:=by obtain⟨a,⟨x,e,f,g,h1⟩,_⟩:=c;exact⟨k.ok b a,⟨x,e,_,_,h1.app k⟩,d⟩
theorem Trims.way (c:FR t) (h:Trims t u f) {s z:Int} {w o:List UInt8} (k:Way t.arcs s w o z) (d:Useful t s) (e:Useful t z):Way u.arcs (f s) w o (f z):=by
 induction k with
 | nil s=>exact .nil _
 | @cons s z b w o x hx hxs hb k ih=>
  subst hxs;have a:Useful t x.to:=by refine d.ahead c (w:=[b]) (o:=x.put b++[]) (.cons x hx rfl hb (.nil _)) ?_;obtain⟨_,_,y,g,l,m,h2⟩:=e;exact⟨y,g,_,_,k.app h2⟩
  have i:=(h.use x.fr (c.2.2.2 x hx).1).2 d;have j:=(h.use x.to (c.2.2.2 x hx).2).2 a;exact Way.cons ⟨f x.fr,f x.to,x.set,x.out,x.cp⟩ ((h.arcs _).2 ⟨x,hx,i,j,rfl⟩) rfl hb (ih a e)
theorem Trims.back (a:FR t) (h:Trims t u f):∀{w:List UInt8} {s k:Int} {o:List UInt8},Way u.arcs (f s) w o k->F6 t.n s->0<=f s->∃z,Way t.arcs s w o z/\f z=k/\F6 t.n z/\0<=f z
 | [],s,k,o,hw,hs,h0=>by obtain⟨rfl,rfl⟩:=Way.nil_iff.1 hw;exact⟨s,.nil _,rfl,hs,h0⟩
 | b::w,s,k,o,hw,hs,h0=>by obtain⟨e,l,m,p,A,q,rfl⟩:=Way.cons_iff.1 hw;obtain⟨x,c,r,v,rfl⟩:=(h.arcs e).1 l;have d:x.fr=s:=h.inj _ _ (a.2.2.2 x c).1 hs r m;obtain⟨z,y,g,i,j⟩:=Trims.back a h q (a.2.2.2 x c).2 v;exact⟨z,.cons x c d p y,g,i,j⟩
theorem Trims.rel (a:FR t) (h:Trims t u f) (w o:List UInt8):RV u w o↔RV t w o:=by
 constructor
 .rintro ⟨x,b,z,c,g,k,rfl⟩;obtain⟨p,d,q,rfl⟩:=(h.starts x).1 b;obtain⟨z0,e,v,rfl⟩:=(h.ends z).1 c;obtain⟨r,i,s,j,l⟩:=h.back a k (a.2.1 p d) q;have:r=z0.st:=h.inj _ _ j (a.2.2.1 z0 e) l s;subst this;exact⟨p,d,z0,e,g,i,rfl⟩
 .rintro ⟨x,b,z,c,g,k,rfl⟩;have m:Useful t x.st:=⟨a.2.1 x b,⟨x,b,_,_,.nil _⟩,z,c,_,_,k⟩;have n:Useful t z.st:=⟨a.2.2.1 z c,⟨x,b,_,_,k⟩,z,c,_,_,.nil _⟩;exact⟨⟨f x.st,x.out⟩,(h.starts _).2 ⟨x,b,(h.use _ m.1).2 m,rfl⟩,⟨f z.st,z.out⟩,(h.ends _).2 ⟨z,c,(h.use _ n.1).2 n,rfl⟩,g,h.way a k m n,rfl⟩
theorem Trims.right (c:FR t) (h:Trims t u f):FR u:=by
 refine⟨h.nn,fun y b=>?_,fun y b=>?_,fun y b=>?_⟩
 .obtain ⟨x,a,e,rfl⟩:=(h.starts y).1 b;exact⟨e,h.lt _ (c.2.1 x a)⟩
 .obtain ⟨x,a,e,rfl⟩:=(h.ends y).1 b;exact⟨e,h.lt _ (c.2.2.1 x a)⟩
 .obtain ⟨x,a,d,g,rfl⟩:=(h.arcs y).1 b;exact⟨⟨d,h.lt _ (c.2.2.2 x a).1⟩,g,h.lt _ (c.2.2.2 x a).2⟩
theorem Trims.useful (a:FR t) (h:Trims t u f) (k:Int) (d:F6 u.n k):Useful u k:=by obtain⟨s,j,rfl⟩:=h.sur k d;have e:=(h.use s j).1 d.1;obtain⟨_,⟨x,b,l,m,h1⟩,z,c,o,p,h2⟩:=id e;have g:Useful t x.st:=⟨a.2.1 x b,⟨x,b,_,_,.nil _⟩,z,c,_,_,h1.app h2⟩;have i:Useful t z.st:=⟨a.2.2.1 z c,⟨x,b,_,_,h1.app h2⟩,z,c,_,_,.nil _⟩;exact⟨d,⟨⟨f x.st,x.out⟩,(h.starts _).2 ⟨x,b,(h.use _ g.1).2 g,rfl⟩,_,_,h.way a h1 g e⟩,⟨f z.st,z.out⟩,(h.ends _).2 ⟨z,c,(h.use _ i.1).2 i,rfl⟩,_,_,h.way a h2 e i⟩
end
def St.ofM (m:Nat->Bool):St:=⟨word m 0,word m 1,word m 2,word m 3⟩
theorem St.ofM_w (m:Nat->Bool) (i:Nat) (h:i<4):(St.ofM m).w i=word m i:=by
 match i,h with
 | 0,_=>rfl
 | 1,_=>rfl
 | 2,_=>rfl
 | 3,_=>rfl
theorem St.ofM_m (m:Nat->Bool) (b:Nat) (h:b<256):(St.ofM m).m b=m b:=by unfold St.m;rw[St.ofM_w m _ (by omega),Cm,Ft];have:b%64<64:=Cz _ (by decide);simp[this]
namespace SeqM
variable (q:SeqM)
def nx (s b:Nat):Int:=(q.next.getD s []).getD b 0
def os (s b:Nat):ByteArray:=(q.outs.getD s []).getD b ByteArray.empty
def en (s:Nat):Bool:=q.ends.getD s false
def tl (s:Nat):ByteArray:=q.tail.getD s ByteArray.empty
def runL:Nat->List UInt8->Option (List UInt8)
 | s,[]=>if q.en s=true then some (q.tl s).data.toList else none
 | s,b::w=>if q.nx s b.toNat<0 then none else(runL (q.nx s b.toNat).toNat w).map ((q.os s b.toNat).data.toList++·)
def run (w:List UInt8):Option (List UInt8):=if q.next.length=0 then none else(q.runL 0 w).map (q.front.data.toList++·)
end SeqM
structure Backs (q:SeqM) (t:Fs):Prop where
 n:t.n=q.next.length
 starts:∀x,x∈t.starts↔0<q.next.length/\x=⟨0,q.front⟩
 ends:∀x,x∈t.ends↔∃s,s<q.next.length/\q.en s=true/\x=⟨(s:Int),q.tl s⟩
 arcs:∀e,e∈t.arcs↔∃s b,s<q.next.length/\b<256/\0<=q.nx s b/\e=⟨(s:Int),q.nx s b,St.ofM (Gy [b]),q.os s b,false⟩
theorem one_m (b c:Nat) (h:c<256):(St.ofM (Gy [b])).m c=(c==b):=by rw[St.ofM_m _ _ h];simp[Gy,List.contains_eq_mem,Bool.beq_eq_decide_eq]
theorem u8_lt (b:UInt8):b.toNat<256:=b.toNat_lt
end
section
open Go.RowKit
theorem Y6:(Tryz.prog.info? 56).isSome=true:=by kernel_rfl
theorem XR:Tryz.prog.cellsOf 56=1:=by kernel_rfl
theorem MN (w:World) (d:Nat) {t:TypeId} {k:IntKind} (c:Tryz.prog.underlying t=some (.int k)) (a b:Int) :(Op.equalIn (d+1) t (.int k a) (.int k b)).run Tryz.prog w=.ok (a==b) w:=by simp[Op.equalIn,run_underlying c]
theorem Kh (w:World) (d:Nat) {T:TypeId} (g:Tryz.prog.underlying T=some (.array 4 56)) (a0 a a2 a3 b c e f:Int) :(Op.equalIn (d+2) T (.agg #[.int .u64 a0,.int .u64 a,.int .u64 a2,.int .u64 a3]) (.agg #[.int .u64 b,.int .u64 c,.int .u64 e,.int .u64 f])).run Tryz.prog w=.ok (a0==b && (a==c && (a2==e && a3==f))) w:=by
 obtain⟨i,hi⟩:=CZ.1 Y6;rw[run_equalIn_array w (d+1) _ _ g hi,XR];have j:List.range 4=[0,1,2,3]:=rfl;rw[j];have k:∀x y z u:Int,(part 56 #[.int .u64 x,.int .u64 y,.int .u64 z,.int .u64 u] 0).run Tryz.prog w=.ok (.int .u64 x) w:=fun x y z u=>by kernel_rfl
 have l:∀x y z u:Int,(part 56 #[.int .u64 x,.int .u64 y,.int .u64 z,.int .u64 u] 1).run Tryz.prog w=.ok (.int .u64 y) w:=fun x y z u=>by kernel_rfl
 have m:∀x y z u:Int,(part 56 #[.int .u64 x,.int .u64 y,.int .u64 z,.int .u64 u] 2).run Tryz.prog w=.ok (.int .u64 z) w:=fun x y z u=>by kernel_rfl
 have n:∀x y z u:Int,(part 56 #[.int .u64 x,.int .u64 y,.int .u64 z,.int .u64 u] 3).run Tryz.prog w=.ok (.int .u64 u) w:=fun x y z u=>by kernel_rfl
 cases h0:a0==b<;>cases h1:a==c<;>cases h2:a2==e<;>cases h3:a3==f<;>simp[Op.eqItems,k,l,m,n,MN w d Tryz.underlying56,h0,h1,h2,h3]
theorem XS (w:World) (a0 a a2 a3 b c d e:Int) :(binOp .eql 58 (.agg #[.int .u64 a0,.int .u64 a,.int .u64 a2,.int .u64 a3]) (.agg #[.int .u64 b,.int .u64 c,.int .u64 d,.int .u64 e])).run Tryz.prog w=.ok (.bool (a0==b && (a==c && (a2==d && a3==e)))) w:=by simp only[binOp];simp[Op.equal,Op.maxDepth,Kh w 9998 Tryz.underlying58]
theorem XT (w:World) (a0 a a2 a3 b c d e:Int) :(binOp .neq 58 (.agg #[.int .u64 a0,.int .u64 a,.int .u64 a2,.int .u64 a3]) (.agg #[.int .u64 b,.int .u64 c,.int .u64 d,.int .u64 e])).run Tryz.prog w=.ok (.bool (!(a0==b && (a==c && (a2==d && a3==e))))) w:=by simp only[binOp];simp[Op.equal,Op.maxDepth,Kh w 9998 Tryz.underlying58]
theorem Le (w:World) (d:Nat) (x y:ByteArray):(Op.equalIn (d+1) 9 (.string x) (.string y)).run Tryz.prog w=.ok (decide (x=y)) w:=by
 have e:(x==y)=decide (x=y):=by
  rw[DS,BB,Gi,DF];constructor
  .intro h;rw[DT,DT]at h;exact FU (Array.toList_inj.1 h)
  .rintro rfl;rfl
 simp[Op.equalIn,run_underlying Tryz.underlying9,e]
theorem Ss (w:World) (d:Nat) (x y:Bool):(Op.equalIn (d+1) 4 (.bool x) (.bool y)).run Tryz.prog w=.ok (x==y) w:=by simp[Op.equalIn,run_underlying Tryz.underlying4]
theorem O5 (w:World) (d:Nat) (x y:Tp):(Op.equalIn (d+2) 54 (.agg (CL x).toArray) (.agg (CL y).toArray)).run Tryz.prog w=.ok (decide (x=y)) w:=by
 obtain⟨a,s⟩:=x;obtain⟨b,t⟩:=y;show(Op.equalIn (d+2) 54 (.agg #[.int .i64 a,.string s]) (.agg #[.int .i64 b,.string t])).run Tryz.prog w=_;rw[run_equalIn_struct w (d+1) _ _ _ (by kernel_rfl) (by kernel_rfl)];have c:(Tryz.prog.fieldsOf 54).toList.map (fun f=>(f.name,f.type,f.offset))=[("State",3,0),("Out",9,1)]:=by kernel_rfl
 rcases e:(Tryz.prog.fieldsOf 54).toList with _|⟨f0,_|⟨f1,_|⟨f2,r⟩⟩⟩<;>rw[e]at c<;>simp at c
 obtain⟨⟨g,t0,i⟩,j,t1,k⟩:=c;have l:∀(a:Int) (s:ByteArray),(part 3 #[.int .i64 a,.string s] 0).run Tryz.prog w=.ok (.int .i64 a) w:=fun a s=>by kernel_rfl
 have m:∀(a:Int) (s:ByteArray),(part 9 #[.int .i64 a,.string s] 1).run Tryz.prog w=.ok (.string s) w:=fun a s=>by kernel_rfl
 cases h0:a==b<;>cases h1:decide (s=t)<;>simp[Op.eqFields,g,j,t0,t1,i,k,l,m,MN w d Tryz.underlying3,Le w d,h0,h1]<;>simp_all
theorem X0X (w:World) (x y:Tp):(binOp .eql 54 (.agg (CL x).toArray) (.agg (CL y).toArray)).run Tryz.prog w=.ok (.bool (decide (x=y))) w:=by rw[run_eql_struct,O5 w 9998];rfl
theorem X0Y (w:World) (x y:Tp):(binOp .neq 54 (.agg (CL x).toArray) (.agg (CL y).toArray)).run Tryz.prog w=.ok (.bool (!decide (x=y))) w:=by rw[run_neq_struct,O5 w 9998];rfl
theorem O6 (w:World) (d:Nat) (x y:Ar):(Op.equalIn (d+3) 61 (.agg (Cx x).toArray) (.agg (Cx y).toArray)).run Tryz.prog w=.ok (decide (x=y)) w:=by
 obtain⟨a,b,⟨u0,u1,u2,u3⟩,s,c⟩:=x;obtain⟨j,k,⟨v0,e,v2,v3⟩,g,l⟩:=y;show(Op.equalIn (d+3) 61 (.agg #[.int .i64 a,.int .i64 b,.int .u64 (u0:Int),.int .u64 (u1:Int),.int .u64 (u2:Int),.int .u64 (u3:Int),.string s,.bool c]) (.agg #[.int .i64 j,.int .i64 k,.int .u64 (v0:Int),.int .u64 (e:Int),.int .u64 (v2:Int),.int .u64 (v3:Int),.string g,.bool l])).run Tryz.prog w=_;rw[run_equalIn_struct w (d+2) _ _ _ (by kernel_rfl) (by kernel_rfl)];have m:(Tryz.prog.fieldsOf 61).toList.map (fun f=>(f.name,f.type,f.offset))=[("From",3,0),("To",3,1),("Set",58,2),("Out",9,6),("Copy",4,7)]:=by kernel_rfl
 rcases q:(Tryz.prog.fieldsOf 61).toList with _|⟨f0,_|⟨f1,_|⟨f2,_|⟨f3,_|⟨f4,_|⟨f5,r⟩⟩⟩⟩⟩⟩<;>rw[q]at m<;>simp at m
 obtain⟨⟨t,t0,u⟩,⟨v,t1,z⟩,⟨A,t2,B⟩,⟨C,t3,E⟩,F,t4,G⟩:=m;have H:∀(a b u0 u1 u2 u3:Int) (s:ByteArray) (c:Bool),(part 3 #[.int .i64 a,.int .i64 b,.int .u64 u0,.int .u64 u1,.int .u64 u2,.int .u64 u3,.string s,.bool c] 0).run Tryz.prog w=.ok (.int .i64 a) w:=fun a b u0 u1 u2 u3 s c=>by kernel_rfl
 have I:∀(a b u0 u1 u2 u3:Int) (s:ByteArray) (c:Bool),(part 3 #[.int .i64 a,.int .i64 b,.int .u64 u0,.int .u64 u1,.int .u64 u2,.int .u64 u3,.string s,.bool c] 1).run Tryz.prog w=.ok (.int .i64 b) w:=fun a b u0 u1 u2 u3 s c=>by kernel_rfl
 have J:∀(a b u0 u1 u2 u3:Int) (s:ByteArray) (c:Bool),(part 58 #[.int .i64 a,.int .i64 b,.int .u64 u0,.int .u64 u1,.int .u64 u2,.int .u64 u3,.string s,.bool c] 2).run Tryz.prog w=.ok (.agg #[.int .u64 u0,.int .u64 u1,.int .u64 u2,.int .u64 u3]) w:=fun a b u0 u1 u2 u3 s c=>by kernel_rfl
 have K:∀(a b u0 u1 u2 u3:Int) (s:ByteArray) (c:Bool),(part 9 #[.int .i64 a,.int .i64 b,.int .u64 u0,.int .u64 u1,.int .u64 u2,.int .u64 u3,.string s,.bool c] 6).run Tryz.prog w=.ok (.string s) w:=fun a b u0 u1 u2 u3 s c=>by kernel_rfl
 have L:∀(a b u0 u1 u2 u3:Int) (s:ByteArray) (c:Bool),(part 4 #[.int .i64 a,.int .i64 b,.int .u64 u0,.int .u64 u1,.int .u64 u2,.int .u64 u3,.string s,.bool c] 7).run Tryz.prog w=.ok (.bool c) w:=fun a b u0 u1 u2 u3 s c=>by kernel_rfl
 have n:=Kh w d Tryz.underlying58 (u0:Int) u1 u2 u3 v0 e v2 v3;generalize o:((u0:Int)==v0 && ((u1:Int)==e && ((u2:Int)==v2 && (u3:Int)==v3)))=W at n;have i:W=(decide ((⟨u0,u1,u2,u3⟩:St)=⟨v0,e,v2,v3⟩)):=by rw[<-o,DS];simp[Int.ofNat_inj]
 have p:(decide ((⟨a,b,⟨u0,u1,u2,u3⟩,s,c⟩:Ar)=⟨j,k,⟨v0,e,v2,v3⟩,g,l⟩))=((a==j) && ((b==k) && (W && (decide (s=g) && (c==l))))):=by rw[i,DS];simp
 rw[p];clear p i o;have es:=Le w (d+1) s g;generalize decide (s=g)=D at *;cases h0:a==j<;>cases h1:b==k<;>cases W<;>cases D<;>cases h4:c==l<;>simp[Op.eqFields,t,v,A,C,F,t0,t1,t2,t3,t4,u,z,B,E,G,H,I,J,K,L,MN w (d+1) Tryz.underlying3,es,Ss w (d+1),n,h0,h1,h4]
theorem X0Z (w:World) (x y:Ar):(binOp .eql 61 (.agg (Cx x).toArray) (.agg (Cx y).toArray)).run Tryz.prog w=.ok (.bool (decide (x=y))) w:=by rw[run_eql_struct,O6 w 9997];rfl
theorem X1a (w:World) (x y:Ar):(binOp .neq 61 (.agg (Cx x).toArray) (.agg (Cx y).toArray)).run Tryz.prog w=.ok (.bool (!decide (x=y))) w:=by rw[run_neq_struct,O6 w 9997];rfl
end
section
open Go.RowKit Go.Sort
theorem My (s n:Int) (w:World):Calls Tryz.prog 49 #[.int .i64 s,.int .i64 n] w (fun e w'=>e=.returned (.bool (Ju s n))/\w=w'):=by
 by_cases h1:0<=s
 .by_cases h2:s<n
  .have e:Ju s n=true:=by unfold Ju;simp[h1,h2]
   rw[e];go_enter Tryz.func49,Tryz.ntmps49;go_wp2;go_ret;exact⟨rfl,rfl⟩
  .have e:Ju s n=false:=by unfold Ju;simp[h2]
   rw[e];go_enter Tryz.func49,Tryz.ntmps49;go_wp2;go_ret;exact⟨rfl,rfl⟩
 .have e:Ju s n=false:=by unfold Ju;simp[h1]
  rw[e];go_enter Tryz.func49,Tryz.ntmps49;go_wp2;go_ret;exact⟨rfl,rfl⟩
theorem NX (A:Option Addr) (n c B:Nat) (l:List Tp) (s:Int) (w:World) (j:Reads w B 2 A n (B_ CL l)) (G:B<=w.heap.size) (H:n<=maxLen) (v:∀x∈l,MJ x) :Calls Tryz.prog 48 #[.slice A n c,.int .i64 s] w (C7 (.bool (Gz l s)) w):=by
 have y:=j.more G;clear j;have C:=FE Dg (by decide) y;unfold maxLen at H;by_cases h0:1024<n
 .have e:Gz l s=false:=by unfold Gz;rw[C,DB (by omega)];rfl
  rw[e];go_enter Tryz.func48,Tryz.ntmps48;go_wp2;go_ret;exact⟨rfl,AH _ _⟩
 .go_enter Tryz.func48,Tryz.ntmps48
  go_wp2;go_loopw [12] (fun i wr=>∃k:Nat,k<=n/\i=.int .i64 k/\Below w.heap.size w wr/\(l.take k).all (Oa s)=true) (fun i _=>n-(intOf i).toNat)
  case atStart=>exact⟨0,by omega,rfl,AH _ _,rfl⟩
  case round=>
   obtain⟨k,P,rfl,f,m⟩:=hrel;have I:=f.size;by_cases u:k<n
   .have J:(0:Int)<=(k:Int):=by omega
    have K:(k:Int)<(n:Int):=by omega
    obtain⟨g,o,rfl,L,Q,R⟩:=Dh (y.below f) k u;have d:Oa s (l.getD k DI)=false->Gz l s=false:=fun h=>by unfold Gz;rw[Tt DI k (by omega) h,Bool.and_false]
    have b:Oa s (l.getD k DI)=true->(l.take (k+1)).all (Oa s)=true:=fun h=>Tu DI k (by omega) h m
    have M:MJ (l.getD k DI):=v _ (by rw[AC,AG (by omega)];exact CI _);obtain⟨S,T,N⟩:=M;unfold maxLen at N;unfold Oa at d b;generalize (l.getD k DI).st=z at *;generalize (l.getD k DI).out=q at *;have p:=AB d;clear d;have r:=AB b;clear b;clear m v;rcases a:Ju z s with _|_
    .have t:∀W,Calls Tryz.prog 49 #[.int .i64 z,.int .i64 s] W (fun e w'=>e=.returned (.bool false)/\W=w'):=fun W=>by rw[<-a];exact My z s W
     have e:=p.out (by rw[a];rfl);rw[e];clear a e p r
     go_wp2_with (go_at_call 49;refine(t _).mono ?_;rintro e D ⟨rfl,rfl⟩)
     go_ret;exact⟨rfl,f.alloc (by omega) _⟩
    .have t:∀W,Calls Tryz.prog 49 #[.int .i64 z,.int .i64 s] W (fun e w'=>e=.returned (.bool true)/\W=w'):=fun W=>by rw[<-a];exact My z s W
     by_cases h1:(1024:Int)<(q.size:Int)
     .have e:=p.out (by rw[a,DB (by omega)];rfl)
      rw[e];clear a e p r
      go_wp2_with (go_at_call 49;refine(t _).mono ?_;rintro e D ⟨rfl,rfl⟩)
      go_ret;exact⟨rfl,f.alloc (by omega) _⟩
     .have e:=r.out (by rw[a,DK (by omega)];rfl)
      have E:=AB e;clear a e p r
      go_wp2_with (go_at_call 49;refine(t _).mono ?_;rintro e D ⟨rfl,rfl⟩)
      go_roundw
      case rel=>exact⟨k+1,by omega,by go_num,f.alloc (by omega) _,E.out⟩
      case measure=>simp[intOf];omega
   .have e:k=n:=by omega
    subst e;have F:Gz l s=true:=by unfold Gz;rw[<-C,CR]at m;rw[m,DK (by omega)];rfl
    have O:=AB F;clear F m;go_wp2;go_ret;refine⟨?_,f⟩;rw[O.out];rfl
end
section
open Go.RowKit Go.Sort
theorem X1P {t:Fs} (h:¬(0<=t.n/\t.n<=1024/\t.arcs.length<=16384/\Gz t.starts t.n=true/\Gz t.ends t.n=true)):O1 (Dq t)=1:=by
 have:Dq t=false:=by rw[<-D5];intro h2;apply h;unfold Dq at h2;simp only[AW,BB]at h2;exact⟨h2.1.1.1.1.1,h2.1.1.1.1.2,h2.1.1.1.2,h2.1.1.2,h2.1.2⟩
 rw[this];rfl
theorem X1b {t:Fs} (k:Nat) (a:k<t.arcs.length) (h:PO t.n (t.arcs.getD k Cq)=false):O1 (Dq t)=1:=by
 have:Dq t=false:=by unfold Dq;rw[Tt Cq k a h,Bool.and_false]
 rw[this];rfl
theorem X1c {t:Fs} (h:0<=t.n/\t.n<=1024/\t.arcs.length<=16384/\Gz t.starts t.n=true/\Gz t.ends t.n=true) (a:t.arcs.all (PO t.n)=true):O1 (Dq t)=0:=by
 have:Dq t=true:=by unfold Dq;simp only[AW,BB];exact⟨⟨⟨⟨⟨h.1,h.2.1⟩,h.2.2.1⟩,h.2.2.2.1⟩,h.2.2.2.2⟩,a⟩
 rw[this];rfl
theorem GX (t:Fs) (v:Value) (B:Nat) (w:World) (HS:EK w B t v) (hB:B<=w.heap.size) :Calls Tryz.prog 20 #[v] w (C7 (.int .i64 (O1 (Dq t))) w):=by
 obtain⟨F,G,H,I,S,T,rfl,h1,h2,h3,h4,h5,h6,h7,h8,R1,W1,R2,W2,R3,Q⟩:=HS;have f:=AB (@X1P t);have p:=AB (fun k=>@X1b t k);have j:=AB (@X1c t);have U:=R1.more hB;have V:=R2.more hB;have z:=R3.more hB;clear R1 R2 R3;have J:∀W,Below w.heap.size w W->Calls Tryz.prog 48 #[.slice F t.starts.length G,.int .i64 t.n] W (C7 (.bool (Gz t.starts t.n)) W):=fun W X=>NX F _ G w.heap.size t.starts t.n W (U.below X) X.size (by omega) W1
 have K:∀W,Below w.heap.size w W->Calls Tryz.prog 48 #[.slice H t.ends.length I,.int .i64 t.n] W (C7 (.bool (Gz t.ends t.n)) W):=fun W X=>NX H _ I w.heap.size t.ends t.n W (V.below X) X.size (by omega) W2
 clear U V W1 W2;unfold maxLen at *;generalize O1 (Dq t)=r at *;generalize t.starts.length=Y at *;generalize t.ends.length=Z at *;generalize Gz t.starts t.n=b1 at *;generalize Gz t.ends t.n=b2 at *;by_cases d1:t.n<0
 .obtain rfl:r=1:=f.out (by omega);generalize t.n=N at *;clear f p j J K Q;go_enter Tryz.func20,Tryz.ntmps20;go_wp2;go_ret;exact⟨rfl,(AH _ _).alloc (AD _) _⟩
 by_cases d2:1024<t.n
 .obtain rfl:r=1:=f.out (by omega);generalize t.n=N at *;clear f p j J K Q;go_enter Tryz.func20,Tryz.ntmps20;go_wp2;go_ret;exact⟨rfl,(AH _ _).alloc (AD _) _⟩
 by_cases d3:16384<t.arcs.length
 .obtain rfl:r=1:=f.out (by omega);generalize t.n=N at *;generalize C:t.arcs.length=m at *;clear f p j J K Q C z;go_enter Tryz.func20,Tryz.ntmps20;go_wp2;go_ret;exact⟨rfl,(AH _ _).alloc (AD _) _⟩
 rcases b1 with _|_
 .obtain rfl:r=1:=f.out (by simp)
  generalize t.n=N at *;generalize C:t.arcs.length=m at *;clear f p j K Q C z;go_enter Tryz.func20,Tryz.ntmps20
  go_wp2_with (go_at_call 48;refine(J _ ((AH _ _).alloc (AD _) _)).mono ?_;rintro e x ⟨rfl,l⟩)
  go_ret;exact⟨rfl,((AH _ _).alloc (AD _) _).trans (l.mono (by simp))⟩
 rcases b2 with _|_
 .obtain rfl:r=1:=f.out (by simp)
  generalize t.n=N at *;generalize C:t.arcs.length=m at *;clear f p j Q C z;have B0:=(AH w.heap.size w).alloc (AD _) (.cells #[.int .i64 N,.slice F Y G,.slice H Z I,.slice S m T] 32);have K0:=BL.new w 32 #[.int .i64 N,.slice F Y G,.slice H Z I,.slice S m T];go_enter Tryz.func20,Tryz.ntmps20
  go_wp2_with fail
  refine(J _ B0).mono ?_;rintro e x ⟨rfl,l⟩;have D:=B0.trans (l.mono (by simp));have M:=K0.below l (by simp);have k0:=M.cell 0;have k2:=M.cell 2
  go_wp2_with fail
  refine(K _ D).mono ?_;rintro e w2 ⟨rfl,u⟩;go_wp2;go_ret;exact⟨rfl,D.trans (u.mono D.size)⟩
 have hA:=AB (fun O=>j.out ⟨by omega,by omega,by omega,rfl,rfl⟩ O);clear f j;have B0:=(AH w.heap.size w).alloc (AD _) (.cells #[.int .i64 t.n,.slice F Y G,.slice H Z I,.slice S t.arcs.length T] 32);have K0:=BL.new w 32 #[.int .i64 t.n,.slice F Y G,.slice H Z I,.slice S t.arcs.length T];have ad:t.arcs.length<=16384:=by omega
 generalize t.n=N at *;generalize t.arcs=L at *;generalize C:L.length=m at *;have Hm:=AB C;clear C;go_enter Tryz.func20,Tryz.ntmps20
 go_wp2_with fail
 refine(J _ B0).mono ?_;rintro e x ⟨rfl,l⟩;have D:=B0.trans (l.mono (by simp));have M:=K0.below l (by simp);have k0:=M.cell 0;have k2:=M.cell 2
 go_wp2_with fail
 refine(K _ D).mono ?_;rintro e w2 ⟨rfl,u⟩;have B2:=D.trans (u.mono D.size);have K2:=M.below u (by have:=l.size;simp at this;omega);have z2:w.heap.size<w2.heap.size:=by have:=l.size;have:=u.size;simp at *;omega
 clear J K k0 k2 M K0 B0 D l u;have k3:=K2.cell 3;go_wp2;clear k3;go_loopw [36] (fun i wr=>∃k:Nat,k<=m/\i=.int .i64 k/\Below w.heap.size w wr/\BL wr w.heap.size 32 #[.int .i64 N,.slice F Y G,.slice H Z I,.slice S m T]/\w.heap.size<wr.heap.size/\(L.take k).all (PO N)=true) (fun i _=>m-(intOf i).toNat)
 case atStart=>exact⟨0,by omega,rfl,B2,K2,z2,rfl⟩
 case round=>
  clear B2 K2 z2;obtain⟨k,hk,rfl,P,HK,ae,O⟩:=hrel;by_cases aa:k<m
  .have af:(0:Int)<=(k:Int):=by omega
   have ag:(k:Int)<(m:Int):=by omega
   obtain⟨g,o,rfl,ah,a0,a1,a2,a3,a4,a5,a6,a7⟩:=Di (z.below P) k aa;have y:PO N (L.getD k Cq)=false->r=1:=fun h=>p.out k aa h
   have s:PO N (L.getD k Cq)=true->(L.take (k+1)).all (PO N)=true:=fun h=>Tu Cq k (by have:=Hm.out;omega) h O
   have hx:Th (L.getD k Cq):=Q _ (by rw[AC,AG (by have:=Hm.out;omega)];exact CI _);have x6:(L.getD k Cq).out.size<=9223372036854775807:=by have:=hx.2.2.2.2.2;unfold maxLen at this;exact this
   have he:=fun W=>XS W ((L.getD k Cq).set.a:Int) ((L.getD k Cq).set.b:Int) ((L.getD k Cq).set.c:Int) ((L.getD k Cq).set.d:Int) 0 0 0 0
   have ab:((((L.getD k Cq).set.a:Int)==0) && ((((L.getD k Cq).set.b:Int)==0) && ((((L.getD k Cq).set.c:Int)==0) && (((L.getD k Cq).set.d:Int)==0))))=!((L.getD k Cq).set != St.none):=by rw[DS];obtain⟨s1,s2,s3,s4⟩:=(L.getD k Cq).set;simp[St.none]
   rw[ab]at he;unfold PO at y s;clear ab hx O;have sf:=fun W=>My (L.getD k Cq).fr N W
   have st:=fun W=>My (L.getD k Cq).to N W
   generalize (L.getD k Cq).fr=fr at *;generalize (L.getD k Cq).to=to at *;generalize ((L.getD k Cq).set != St.none)=sb at *;generalize (L.getD k Cq).set.a=s1 at *;generalize (L.getD k Cq).set.b=s2 at *;generalize (L.getD k Cq).set.c=s3 at *;generalize (L.getD k Cq).set.d=s4 at *;generalize (L.getD k Cq).out=q at *;generalize (L.getD k Cq).cp=cp at *;generalize Ju fr N=p1 at *;generalize Ju to N=p2 at *;have A:=AB y;clear y;have R:=AB s;clear s;have ac:=HK.alloc (.cells #[.int .i64 fr,.int .i64 to,.int .u64 s1,.int .u64 s2,.int .u64 s3,.int .u64 s4,.string q,.bool cp] 61);have k0:=ac.cell 0;rcases p1 with _|_
   .obtain rfl:r=1:=A.out rfl
    clear A R st he
    go_wp2_with (go_at_call 49;refine(sf _).mono ?_;rintro e x ⟨rfl,rfl⟩)
    go_ret;exact⟨rfl,P.alloc (by omega) _⟩
   rcases p2 with _|_
   .obtain rfl:r=1:=A.out rfl
    clear A R he
    go_wp2_with fail
    refine(sf _).mono ?_;rintro e x ⟨rfl,rfl⟩
    go_wp2_with fail
    refine(st _).mono ?_;rintro e x ⟨rfl,rfl⟩;go_wp2;go_ret;exact⟨rfl,P.alloc (by omega) _⟩
   rcases sb with _|_
   .obtain rfl:r=1:=A.out rfl
    clear A R
    go_wp2_with fail
    refine(sf _).mono ?_;rintro e x ⟨rfl,rfl⟩
    go_wp2_with fail
    refine(st _).mono ?_;rintro e x ⟨rfl,rfl⟩;go_wp2;go_ret;exact⟨rfl,P.alloc (by omega) _⟩
   by_cases h1:(1024:Int)<(q.size:Int)
   .obtain rfl:r=1:=A.out (by simp;omega)
    clear A R
    go_wp2_with fail
    refine(sf _).mono ?_;rintro e x ⟨rfl,rfl⟩
    go_wp2_with fail
    refine(st _).mono ?_;rintro e x ⟨rfl,rfl⟩;go_wp2;go_ret;exact⟨rfl,P.alloc (by omega) _⟩
   .have E:=AB (R.out (by simp;omega))
    clear A R
    go_wp2_with fail
    refine(sf _).mono ?_;rintro e x ⟨rfl,rfl⟩
    go_wp2_with fail
    refine(st _).mono ?_;rintro e x ⟨rfl,rfl⟩;go_wp2;go_roundw
    case rel=>exact⟨k+1,by omega,by go_num,P.alloc (by omega) _,ac,by simp;omega,E.out⟩
    case measure=>simp[intOf];omega
  .have e:k=m:=by omega
   subst e;obtain rfl:r=0:=hA.out (by rw[<-Hm.out,CR]at O;exact O);clear O;go_wp2;go_ret;exact⟨rfl,P⟩
end
end Go.Proofs.YtcondkihpmmnnaaGreatDoor
