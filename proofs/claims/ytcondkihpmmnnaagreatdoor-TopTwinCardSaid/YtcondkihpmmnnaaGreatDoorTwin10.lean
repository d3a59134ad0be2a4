/- Lemmas, part 10 of 50. No condition. -/
import Derived.Test.YtcondkihpmmnnaaGreatDoorTwin09
import Derived.Shelf.SlSortCmp.QuietGrown
import Derived.Test.YtcondkihpmmnnaaGreatDoorTwin03
import Derived.Lib.OwnBridge
import Derived.Laws.IdiomCopy
import Derived.Lib.SlBuf
set_option maxRecDepth 100000
set_option maxHeartbeats 16000000
namespace Go.Proofs.YtcondkihpmmnnaaGreatDoor
section
open Go.RowKit Go.Sort
theorem PY (x y:Tp):OV [Lib.compareInt x.st y.st,Ob x.out y.out]=L_ x y:=by
 unfold L_ Lib.compareInt Ob OV;by_cases h1:x.st<y.st
 .simp [h1]
 .by_cases h2:y.st<x.st
  .simp [h1,h2]
  .simp only[h1,h2,Ef];unfold OV OV;simp only[ne_eq,not_true,Ef];split<;>simp_all
def ML (w w':World):Prop:=∃q os,w'=grow (w.drewN q) os
theorem ML.below {w w':World} (h:ML w w'):Below w.heap.size w w':=by obtain⟨q,os,rfl⟩:=h;have:grow (w.drewN q) os=grow (redrawn w (w.drawn+q)) os:=rfl;rw[this];exact DN _ _ _
theorem Sr (x y:Int) (V:World):Calls Tryz.prog 82 #[.slice (some ⟨V.heap.size,0,none⟩) 2 2] (V.alloc (.cells #[.int .i64 x,.int .i64 y] 3)) (fun e w'=>e=.returned (.int .i64 (OV [x,y]))/\V.alloc (.cells #[.int .i64 x,.int .i64 y] 3)=w'):=Yz _ 2 2 _ [x,y] _ (KR V [.int .i64 x,.int .i64 y] 3 (by simp)) (by decide)
theorem F7 {f:FuncId} {args:Array Value} {W:World} {v:Value} (h:Calls Tryz.prog f args W fun e w'=>e=.returned v/\W=w') :Calls Tryz.prog f args W fun e w'=>e=.returned v/\∃q a,w'=grow (W.drewN q) a:=h.mono fun _ _ ⟨b,c⟩=>⟨b,0,#[],by rw[<-c,F_];rfl⟩
theorem QE (x y:Tp) (w:World):Calls Tryz.prog 93 #[.agg (CL x).toArray,.agg (CL y).toArray] w (fun e w'=>e=.returned (.int .i64 (L_ x y))/\ML w w'):=by
 obtain⟨a,s⟩:=x;obtain⟨b,t⟩:=y;have g:=PY ⟨a,s⟩ ⟨b,t⟩;generalize L_ ⟨a,s⟩ ⟨b,t⟩=r at *;have o:=AB g;clear g;show Calls Tryz.prog 93 #[.agg #[.int .i64 a,.string s],.agg #[.int .i64 b,.string t]] w _;go_enter Tryz.func93,Tryz.ntmps93;go_wp2;have i:((w.alloc (.cells #[.int .i64 a,.string s] 54)).alloc (.cells #[.int .i64 b,.string t] 54)).cell? ⟨w.heap.size,0,none⟩=some (.int .i64 a):=((BL.new w _ _).alloc _).cell 0;have j:((w.alloc (.cells #[.int .i64 a,.string s] 54)).alloc (.cells #[.int .i64 b,.string t] 54)).cell? ⟨w.heap.size,1,none⟩=some (.string s):=((BL.new w _ _).alloc _).cell 1;have k:((w.alloc (.cells #[.int .i64 a,.string s] 54)).alloc (.cells #[.int .i64 b,.string t] 54)).cell? ⟨w.heap.size+1,0,none⟩=some (.int .i64 b):=by have:=(BL.new (w.alloc (.cells #[.int .i64 a,.string s] 54)) 54 #[.int .i64 b,.string t]).cell 0;rwa [Ad]at this
 have l:((w.alloc (.cells #[.int .i64 a,.string s] 54)).alloc (.cells #[.int .i64 b,.string t] 54)).cell? ⟨w.heap.size+1,1,none⟩=some (.string t):=by have:=(BL.new (w.alloc (.cells #[.int .i64 a,.string s] 54)) 54 #[.int .i64 b,.string t]).cell 1;rwa [Ad]at this
 have m:ML w ((w.alloc (.cells #[.int .i64 a,.string s] 54)).alloc (.cells #[.int .i64 b,.string t] 54)):=⟨0,_,by rw[EE,EE,GN];rfl⟩;have q:w.heap.size+1<((w.alloc (.cells #[.int .i64 a,.string s] 54)).alloc (.cells #[.int .i64 b,.string t] 54)).heap.size:=by simp
 generalize ((w.alloc (.cells #[.int .i64 a,.string s] 54)).alloc (.cells #[.int .i64 b,.string t] 54))=W at *;have g0:=fun n os=>cell_grown (w:=W) (by simp;omega) i n os
 have g1:=fun n os=>cell_grown (w:=W) (by simp;omega) j n os
 have g2:=fun n os=>cell_grown (w:=W) (by simp;omega) k n os
 have g3:=fun n os=>cell_grown (w:=W) (by simp;omega) l n os
 clear i j k l;refine E_ (C:=fun w'=>∃p:GrownBy,w'=grow (W.drewN p.n) p.os) 10 (by kernel_rfl) (by kernel_rfl) ⟨⟨1,#[]⟩,by rw[F_];rfl⟩ ?_;simp only[CO,CN,Az,BI]
 repeat (go_big_quiet_step ((first
  | (go_at_call 83;exact Calls.grown_of (F7 (Lc _ _ _)))
  | (go_at_call 120;exact Calls.grown_of (F7 (O2 _ _ _))))))
 refine Ah ?_;rintro u ⟨⟨nq,osq⟩,rfl⟩;have d:ML w (grow (W.drewN nq) osq):=by obtain⟨f,c,rfl⟩:=m;exact⟨f+nq,c++osq,by rw[<-GN,<-World.drewN_drewN];rfl⟩
 clear g0 g1 g2 g3 m q;generalize grow (W.drewN nq) osq=V at *
 go_wp2_with (go_at_call 82;refine(Sr _ _ V).mono ?_;rintro e w' ⟨rfl,rfl⟩)
 go_ret;refine⟨by rw[o.out];rfl,?_⟩;obtain⟨f,c,rfl⟩:=d;exact⟨f,c++#[_],by rw[EE,GN]⟩
end
section
open Go.Lib Go.Sort
structure Ord3 {α:Type} (f:α->α->Int):Prop where
 sym:∀x y,f y x=- f x y
 le:∀x y z,f x y<=0->f y z<=0->f x z<=0
theorem Ord3.refl {α:Type} {f:α->α->Int} (h:Ord3 f) (x:α):f x x=0:=by have:=h.sym x x;omega
theorem Ord3.then {α:Type} {f g:α->α->Int} (a:Ord3 f) (b:Ord3 g):Ord3 fun x y=>if f x y≠0 then f x y else g x y:=by
 refine⟨fun x y=>?_,fun x y z h1 h2=>?_⟩
 .have c:=a.sym x y;have d:=b.sym x y;split<;>split<;>omega
 .have e:=a.le x y z
  have a2:=a.le z x y;have a3:=a.le y z x;have s1:=a.sym x y;have s2:=a.sym y z;have s3:=a.sym x z;have i:=b.le x y z
  revert h1 h2
  split<;>split<;>split<;>omega
theorem Ord3.on {α β:Type} {f:β->β->Int} (h:Ord3 f) (p:α->β):Ord3 fun x y=>f (p x) (p y):=⟨fun _x _y=>h.sym _ _,fun _x _y _z=>h.le _ _ _⟩
theorem JM:Ord3 Lib.compareInt:=by
 refine⟨fun x y=>?_,fun x y z h1 h2=>?_⟩
 .unfold Lib.compareInt
  rcases Int.lt_trichotomy x y with h|h|h
  .rw [AP (by omega),AU (by omega),AU h];rfl
  .subst h;simp
  .rw [AU (by omega),AP (by omega),AU (by omega)]
 .unfold Lib.compareInt at *;split at h1<;>split at h2<;>(try split at h1)<;>(try split at h2)<;>split<;>(try split)<;>omega
theorem Y0:∀a b:List UInt8,compareBytes b a=- compareBytes a b:=by intro a b;rcases I1 a b with⟨h1,h2,h3,h4⟩|⟨h1,h2,h3,h4⟩|⟨h1,h2,h3,h4⟩<;>rcases I1 b a with⟨k1,k2,k3,k4⟩|⟨k1,k2,k3,k4⟩|⟨k1,k2,k3,k4⟩<;>simp_all
theorem Tx (a b:List UInt8):compareBytes a b<=0↔Op.bytesLess b a=false:=by rcases I1 a b with⟨h1,h2,h3,h4⟩|⟨h1,h2,h3,h4⟩|⟨h1,h2,h3,h4⟩<;>simp_all
theorem XM (a b:List UInt8) (h:compareBytes a b=0):a=b:=by rcases I1 a b with⟨h1,h2,h3,h4⟩|⟨h1,h2,h3,h4⟩|⟨h1,h2,h3,h4⟩<;>simp_all
theorem VP:Ord3 compareBytes:=by refine⟨Y0,fun x y z h1 h2=>?_⟩;rw[Tx,bytesLess_eq,EO]at *;rw[List.not_lt]at *;exact List.le_trans h1 h2
theorem Rj:Ord3 Ob:=VP.on fun s:ByteArray=>s.data.toList
theorem Rk (a b:ByteArray) (h:Ob a b=0):a=b:=FU (Array.toList_inj.1 (XM _ _ h))
theorem GT (a b:Int) (h:Lib.compareInt a b=0):a=b:=by
 unfold Lib.compareInt at h;split at h
 .omega
 .split at h<;>omega
theorem Y4 {α:Type} {f:α->α->Int} (h:Ord3 f):SWO (ltOf f) where
 irrefl x:=by unfold ltOf;rw[h.refl];rfl
 trans x y z h1 h2:=by unfold ltOf at *;rw[BB]at *;have:=h.le x y z (by omega) (by omega);have s:=h.sym x z;have s2:=h.sym x y;have:=h.le y z x (by omega);omega
 ntrans x y z h1 h2:=by unfold ltOf at *;rw[EO]at *;have s1:=h.sym x y;have s2:=h.sym y z;have s3:=h.sym x z;have:=h.le z y x (by omega) (by omega);omega
theorem Ty {α:Type} {f:α->α->Int} (h:Ord3 f) (a:∀x y,f x y=0->x=y) (x y:α) (h1:ltOf f x y=false) (h2:ltOf f y x=false):x=y:=by unfold ltOf at *;rw[EO]at *;have s1:=h.sym x y;exact a x y (by omega)
theorem WW:L_=fun x y=>if Lib.compareInt x.st y.st≠0 then Lib.compareInt x.st y.st else Ob x.out y.out:=by
 funext x y;rw[<-PY];unfold OV OV OV;split
 .rfl
 .split<;>simp_all
theorem Jw:Ord3 L_:=by rw[WW];exact(JM.on Tp.st).then (Rj.on Tp.out)
theorem XN (x y:Tp) (h:L_ x y=0):x=y:=by
 rw[WW]at h;simp only at h;split at h
 .omega
 .rename_i h0;have a:=GT _ _ (Decidable.not_not.1 h0);have b:=Rk _ _ h;cases x;cases y;simp_all
def QF (x y:Ar):Int:=OV [Lib.compareInt x.fr y.fr,Lib.compareInt x.to y.to,cmpL [(x.set.a:Int),x.set.b,x.set.c,x.set.d] [(y.set.a:Int),y.set.b,y.set.c,y.set.d],Ob x.out y.out,Lib.compareInt (So x.cp) (So y.cp)]
theorem Jy (x:Int) (l:List Int):OV (x::l)=if x≠0 then x else OV l:=rfl
theorem WX (x:Int):OV [x]=x:=by unfold OV OV;split<;>simp_all
theorem orL4 (a b c d:Int):OV [a,b,c,d]=if a≠0 then a else if b≠0 then b else if c≠0 then c else d:=by rw[Jy,Jy,Jy,WX]
theorem orL5 (a b c d e:Int):OV [a,b,c,d,e]=if a≠0 then a else if b≠0 then b else if c≠0 then c else if d≠0 then d else e:=by rw[Jy,Jy,Jy,Jy,WX]
theorem WY:QF=fun x y=>if Lib.compareInt x.fr y.fr≠0 then Lib.compareInt x.fr y.fr else if Lib.compareInt x.to y.to≠0 then Lib.compareInt x.to y.to else if(if Lib.compareInt x.set.a y.set.a≠0 then Lib.compareInt x.set.a y.set.a else if Lib.compareInt x.set.b y.set.b≠0 then Lib.compareInt x.set.b y.set.b else if Lib.compareInt x.set.c y.set.c≠0 then Lib.compareInt x.set.c y.set.c else Lib.compareInt x.set.d y.set.d)≠0 then (if Lib.compareInt x.set.a y.set.a≠0 then Lib.compareInt x.set.a y.set.a else if Lib.compareInt x.set.b y.set.b≠0 then Lib.compareInt x.set.b y.set.b else if Lib.compareInt x.set.c y.set.c≠0 then Lib.compareInt x.set.c y.set.c else Lib.compareInt x.set.d y.set.d) else if Ob x.out y.out≠0 then Ob x.out y.out else Lib.compareInt (So x.cp) (So y.cp):=by funext x y;unfold QF cmpL;simp only[List.zipWith_cons_cons,List.zipWith_nil_left];rw[orL5,orL4]
theorem Tz:Ord3 QF:=by rw[WY];exact(JM.on Ar.fr).then ((JM.on Ar.to).then (((JM.on fun x:Ar=>(x.set.a:Int)).then ((JM.on fun x:Ar=>(x.set.b:Int)).then ((JM.on fun x:Ar=>(x.set.c:Int)).then (JM.on fun x:Ar=>(x.set.d:Int))))).then ((Rj.on Ar.out).then (JM.on fun x:Ar=>So x.cp))))
theorem XO (x y:Ar) (h:QF x y=0):x=y:=by
 rw[WY]at h;simp only at h;have g:Lib.compareInt x.fr y.fr=0:=by split at h<;>omega
 rw[AP (by omega)]at h;have i:Lib.compareInt x.to y.to=0:=by split at h<;>omega
 rw[AP (by omega)]at h;have e:(if Lib.compareInt (x.set.a:Int) y.set.a≠0 then Lib.compareInt (x.set.a:Int) y.set.a else if Lib.compareInt (x.set.b:Int) y.set.b≠0 then Lib.compareInt (x.set.b:Int) y.set.b else if Lib.compareInt (x.set.c:Int) y.set.c≠0 then Lib.compareInt (x.set.c:Int) y.set.c else Lib.compareInt (x.set.d:Int) y.set.d)=0:=DC fun h0=>by rw[AU h0]at h;exact h0 h
 rw[AP (by rw[e];simp)]at h;have j:Lib.compareInt (x.set.a:Int) y.set.a=0:=by split at e<;>omega
 rw[AP (by omega)]at e;have k:Lib.compareInt (x.set.b:Int) y.set.b=0:=by split at e<;>omega
 rw[AP (by omega)]at e;have l:Lib.compareInt (x.set.c:Int) y.set.c=0:=by split at e<;>omega
 rw[AP (by omega)]at e;have m:Ob x.out y.out=0:=by split at h<;>omega
 rw[AP (by omega)]at h;have f1:=GT _ _ g;have f2:=GT _ _ i;have f3:=GT _ _ j;have f4:=GT _ _ k;have f5:=GT _ _ l;have f6:=GT _ _ e;have f7:=Rk _ _ m;have f8:=GT _ _ h;obtain⟨a,b,⟨s,s1,s2,s3⟩,o,c⟩:=x;obtain⟨t,u,⟨n,p,q,r⟩,v,f⟩:=y;simp only at f1 f2 f3 f4 f5 f6 f7 f8;have:c=f:=by cases c<;>cases f<;>simp_all [So]
 simp only[Ar.mk.injEq,St.mk.injEq];exact⟨f1,f2,⟨by omega,by omega,by omega,by omega⟩,f7,this⟩
def Jz (l:List Ar):List Ar:=l.mergeSort fun x y=>!decide (QF y x<0)
def Ng (l:List Ar):List Ar:=DX (Jz l)
theorem Kl (z:Ar) (l:List Ar):z∈Ng l↔z∈l:=by unfold Ng;rw[Mw];unfold Jz;exact List.mem_mergeSort
end
section
open Go.RowKit Go.Sort
theorem QG (x y:ByteArray) (w:World):Calls Tryz.prog 84 #[.string x,.string y] w (fun e w'=>e=.returned (.int .i64 (Ob x y))/\w=w'):=(Tryz.strings_Compare x y w).mono fun _ _ ⟨a,b⟩=>⟨a,b.symm⟩
theorem PP (x y:Tp) (w:World):Calls Tryz.prog 51 #[.agg (CL x).toArray,.agg (CL y).toArray] w (fun e w'=>e=.returned (.int .i64 (L_ x y))/\ML w w'):=by
 obtain⟨a,s⟩:=x;obtain⟨b,t⟩:=y;have g:=PY ⟨a,s⟩ ⟨b,t⟩;generalize L_ ⟨a,s⟩ ⟨b,t⟩=r at *;have o:=AB g;clear g;show Calls Tryz.prog 51 #[.agg #[.int .i64 a,.string s],.agg #[.int .i64 b,.string t]] w _;go_enter Tryz.func51,Tryz.ntmps51;go_wp2;have i:((w.alloc (.cells #[.int .i64 a,.string s] 54)).alloc (.cells #[.int .i64 b,.string t] 54)).cell? ⟨w.heap.size,0,none⟩=some (.int .i64 a):=((BL.new w _ _).alloc _).cell 0;have j:((w.alloc (.cells #[.int .i64 a,.string s] 54)).alloc (.cells #[.int .i64 b,.string t] 54)).cell? ⟨w.heap.size,1,none⟩=some (.string s):=((BL.new w _ _).alloc _).cell 1;have k:((w.alloc (.cells #[.int .i64 a,.string s] 54)).alloc (.cells #[.int .i64 b,.string t] 54)).cell? ⟨w.heap.size+1,0,none⟩=some (.int .i64 b):=by have:=(BL.new (w.alloc (.cells #[.int .i64 a,.string s] 54)) 54 #[.int .i64 b,.string t]).cell 0;rwa [Ad]at this
 have l:((w.alloc (.cells #[.int .i64 a,.string s] 54)).alloc (.cells #[.int .i64 b,.string t] 54)).cell? ⟨w.heap.size+1,1,none⟩=some (.string t):=by have:=(BL.new (w.alloc (.cells #[.int .i64 a,.string s] 54)) 54 #[.int .i64 b,.string t]).cell 1;rwa [Ad]at this
 have m:ML w ((w.alloc (.cells #[.int .i64 a,.string s] 54)).alloc (.cells #[.int .i64 b,.string t] 54)):=⟨0,_,by rw[EE,EE,GN];rfl⟩;have q:w.heap.size+1<((w.alloc (.cells #[.int .i64 a,.string s] 54)).alloc (.cells #[.int .i64 b,.string t] 54)).heap.size:=by simp
 generalize ((w.alloc (.cells #[.int .i64 a,.string s] 54)).alloc (.cells #[.int .i64 b,.string t] 54))=W at *;have g0:=fun n os=>cell_grown (w:=W) (by simp;omega) i n os
 have g1:=fun n os=>cell_grown (w:=W) (by simp;omega) j n os
 have g2:=fun n os=>cell_grown (w:=W) (by simp;omega) k n os
 have g3:=fun n os=>cell_grown (w:=W) (by simp;omega) l n os
 clear i j k l;refine E_ (C:=fun w'=>∃p:GrownBy,w'=grow (W.drewN p.n) p.os) 10 (by kernel_rfl) (by kernel_rfl) ⟨⟨1,#[]⟩,by rw[F_];rfl⟩ ?_;simp only[CO,CN,Az,BI]
 repeat (go_big_quiet_step ((first
  | (go_at_call 83;exact Calls.grown_of (F7 (Lc _ _ _)))
  | (go_at_call 84;exact Calls.grown_of (F7 (QG _ _ _))))))
 refine Ah ?_;rintro u ⟨⟨nq,osq⟩,rfl⟩;have d:ML w (grow (W.drewN nq) osq):=by obtain⟨f,c,rfl⟩:=m;exact⟨f+nq,c++osq,by rw[<-GN,<-World.drewN_drewN];rfl⟩
 clear g0 g1 g2 g3 m q;generalize grow (W.drewN nq) osq=V at *
 go_wp2_with (go_at_call 82;refine(Sr _ _ V).mono ?_;rintro e w' ⟨rfl,rfl⟩)
 go_ret;refine⟨by rw[o.out];rfl,?_⟩;obtain⟨f,c,rfl⟩:=d;exact⟨f,c++#[_],by rw[EE,GN]⟩
theorem X0W (a b c d e:Int) (V:World):Calls Tryz.prog 82 #[.slice (some ⟨V.heap.size,0,none⟩) 5 5] (V.alloc (.cells #[.int .i64 a,.int .i64 b,.int .i64 c,.int .i64 d,.int .i64 e] 3)) (fun f w'=>f=.returned (.int .i64 (OV [a,b,c,d,e]))/\V.alloc (.cells #[.int .i64 a,.int .i64 b,.int .i64 c,.int .i64 d,.int .i64 e] 3)=w'):=Yz _ 5 5 _ [a,b,c,d,e] _ (KR V [.int .i64 a,.int .i64 b,.int .i64 c,.int .i64 d,.int .i64 e] 3 (by simp)) (by decide)
theorem Rl {w:World} {g:Nat} {T:TypeId} {a:Array Value} (h:BL w g T a) (o:Nat) (xs:List Value) (b:∀j u,xs[j]?=some u->a[o+j]?=some u) :Reads w (g+1) 1 (some ⟨g,o,none⟩) xs.length xs:=by refine⟨by simp,fun _=>⟨_,rfl,by simp,fun j u c=>?_⟩⟩;rw[Gq,h.cell];exact b j u c
theorem BL.grown_ {w:World} {g:Nat} {T:TypeId} {a:Array Value} (h:BL w g T a) (n:Nat) (os:Array Obj):BL (grow (w.drewN n) os) g T a:=by have:grow (w.drewN n) os=grow (redrawn w (w.drawn+n)) os:=rfl;rw[this];exact h.below (DN w _ os) h.lt
theorem PQ (x y:Ar) (w:World):Calls Tryz.prog 53 #[.agg (Cx x).toArray,.agg (Cx y).toArray] w (fun e w'=>e=.returned (.int .i64 (QF x y))/\ML w w'):=by
 obtain⟨a,b,⟨u0,u1,u2,u3⟩,s,c⟩:=x;obtain⟨f,g,⟨v0,F,v2,v3⟩,i,k⟩:=y;have K:OV [Lib.compareInt a f,Lib.compareInt b g,cmpL [(u0:Int),u1,u2,u3] [(v0:Int),F,v2,v3],Ob s i,Lib.compareInt (So c) (So k)]=QF ⟨a,b,⟨u0,u1,u2,u3⟩,s,c⟩ ⟨f,g,⟨v0,F,v2,v3⟩,i,k⟩:=rfl;generalize QF ⟨a,b,⟨u0,u1,u2,u3⟩,s,c⟩ ⟨f,g,⟨v0,F,v2,v3⟩,i,k⟩=r at *;have P:=AB K;clear K;show Calls Tryz.prog 53 #[.agg #[.int .i64 a,.int .i64 b,.int .u64 (u0:Int),.int .u64 (u1:Int),.int .u64 (u2:Int),.int .u64 (u3:Int),.string s,.bool c],.agg #[.int .i64 f,.int .i64 g,.int .u64 (v0:Int),.int .u64 (F:Int),.int .u64 (v2:Int),.int .u64 (v3:Int),.string i,.bool k]] w _;generalize (u0:Int)=l at *;generalize (u1:Int)=m at *;generalize (u2:Int)=o at *;generalize (u3:Int)=q at *;generalize (v0:Int)=t at *;generalize (F:Int)=v at *;generalize (v2:Int)=z at *;generalize (v3:Int)=A at *;go_enter Tryz.func53,Tryz.ntmps53;go_wp2;have L:BL ((w.alloc (.cells #[.int .i64 a,.int .i64 b,.int .u64 l,.int .u64 m,.int .u64 o,.int .u64 q,.string s,.bool c] 61)).alloc (.cells #[.int .i64 f,.int .i64 g,.int .u64 t,.int .u64 v,.int .u64 z,.int .u64 A,.string i,.bool k] 61)) w.heap.size 61 #[.int .i64 a,.int .i64 b,.int .u64 l,.int .u64 m,.int .u64 o,.int .u64 q,.string s,.bool c]:=(BL.new w _ _).alloc _;have M:BL ((w.alloc (.cells #[.int .i64 a,.int .i64 b,.int .u64 l,.int .u64 m,.int .u64 o,.int .u64 q,.string s,.bool c] 61)).alloc (.cells #[.int .i64 f,.int .i64 g,.int .u64 t,.int .u64 v,.int .u64 z,.int .u64 A,.string i,.bool k] 61)) (w.heap.size+1) 61 #[.int .i64 f,.int .i64 g,.int .u64 t,.int .u64 v,.int .u64 z,.int .u64 A,.string i,.bool k]:=by have:=BL.new (w.alloc (.cells #[.int .i64 a,.int .i64 b,.int .u64 l,.int .u64 m,.int .u64 o,.int .u64 q,.string s,.bool c] 61)) 61 #[.int .i64 f,.int .i64 g,.int .u64 t,.int .u64 v,.int .u64 z,.int .u64 A,.string i,.bool k];rwa [Ad]at this
 have N:ML w ((w.alloc (.cells #[.int .i64 a,.int .i64 b,.int .u64 l,.int .u64 m,.int .u64 o,.int .u64 q,.string s,.bool c] 61)).alloc (.cells #[.int .i64 f,.int .i64 g,.int .u64 t,.int .u64 v,.int .u64 z,.int .u64 A,.string i,.bool k] 61)):=⟨0,_,by rw[EE,EE,GN];rfl⟩;generalize ((w.alloc (.cells #[.int .i64 a,.int .i64 b,.int .u64 l,.int .u64 m,.int .u64 o,.int .u64 q,.string s,.bool c] 61)).alloc (.cells #[.int .i64 f,.int .i64 g,.int .u64 t,.int .u64 v,.int .u64 z,.int .u64 A,.string i,.bool k] 61))=W at *;have B:=fun n os=>L.grown_ n os
 have D:=fun n os=>M.grown_ n os
 have g0:=fun n os=>(B n os).cell 0
 have g1:=fun n os=>(B n os).cell 1
 have g6:=fun n os=>(B n os).cell 6
 have g7:=fun n os=>(B n os).cell 7
 have Q:=fun n os=>(D n os).cell 0
 have R:=fun n os=>(D n os).cell 1
 have S:=fun n os=>(D n os).cell 6
 have T:=fun n os=>(D n os).cell 7
 have O:∀n os,Calls Tryz.prog 88 #[.slice (some ⟨w.heap.size,2,none⟩) 4 4,.slice (some ⟨w.heap.size+1,2,none⟩) 4 4] (grow (W.drewN n) os) (fun e w'=>e=.returned (.int .i64 (cmpL [l,m,o,q] [t,v,z,A]))/\grow (W.drewN n) os=w'):=fun n os=>
  Sq _ _ 4 4 4 _ [l,m,o,q] [t,v,z,A] _ ((Rl (B n os) 2 [.int .u64 l,.int .u64 m,.int .u64 o,.int .u64 q] (by
   intro j u d
   match j,d with
   | 0,d=>simpa using d
   | 1,d=>simpa using d
   | 2,d=>simpa using d
   | 3,d=>simpa using d)).more (B':=w.heap.size+2) (by omega)) (Rl (D n os) 2 [.int .u64 t,.int .u64 v,.int .u64 z,.int .u64 A] (by
   intro j u d
   match j,d with
   | 0,d=>simpa using d
   | 1,d=>simpa using d
   | 2,d=>simpa using d
   | 3,d=>simpa using d)) (by decide)
 have U:(0:Int)<=4:=by decide
 clear L M;have G:=AB B;have H:=AB D;clear B D;refine E_ (C:=fun w'=>∃p:GrownBy,w'=grow (W.drewN p.n) p.os) 27 (by kernel_rfl) (by kernel_rfl) ⟨⟨1,#[]⟩,by rw[F_];rfl⟩ ?_;simp only[CO,CN,Az,BI]
 repeat (go_big_quiet_step ((first
  | (go_at_call 83;exact Calls.grown_of (F7 (Lc _ _ _)))
  | (go_at_call 88;exact Calls.grown_of (F7 (O _ _)))
  | (go_at_call 89;exact Calls.grown_of (F7 (VO _ _)))
  | (go_at_call 84;exact Calls.grown_of (F7 (QG _ _ _))))))
 refine Ah ?_;rintro X ⟨⟨nq,osq⟩,rfl⟩;have I:ML w (grow (W.drewN nq) osq):=by obtain⟨J,E,rfl⟩:=N;exact⟨J+nq,E++osq,by rw[<-GN,<-World.drewN_drewN];rfl⟩
 clear g0 g1 g6 g7 Q R S T O G H N;generalize grow (W.drewN nq) osq=V at *
 go_wp2_with (go_at_call 82;refine(X0W _ _ _ _ _ V).mono ?_;rintro e w' ⟨rfl,rfl⟩)
 go_ret;refine⟨by rw[P.out];rfl,?_⟩;obtain⟨J,E,rfl⟩:=I;exact⟨J,E++#[_],by rw[EE,GN]⟩
end
section
open Go.RowKit Go.Sort Go.Lib
section
variable {α:Type} {enc:α->List Value} {k:Nat}
def EV (enc:α->List Value) (k:Nat) (w:World) (g n:Nat) (M:Nat->α):Prop:=(∀a i u,a<n->(enc (M a))[i]?=some u->w.cell? ⟨g,a*k+i,none⟩=some u)/\∀x,x<n*k->w.frozen? ⟨g,x,none⟩=false
theorem EV.congr {w:World} {g n:Nat} {M M':Nat->α} (h:EV enc k w g n M) (c:∀a,a<n->M a=M' a):EV enc k w g n M':=⟨fun a i u b d=>h.1 a i u b (by rw[c a b];exact d),h.2⟩
theorem EV.holds [Inhabited α] (i:∀x,(enc x).length=k) (h0:0<k) {w:World} {g:Nat} {l:List α} {d:α} (h:EV enc k w g l.length fun a=>l.getD a d):HoldsK enc k w g 0 l.toArray:=by
 intro j c;rw[size_flatK]at c;simp only[CJ]at c;have f:j / k<l.length:=EP (by rw[D6];exact c);have m:j%k<k:=Cz _ h0;refine⟨?_,by rw[C8];exact h.2 j c⟩;rw[get_flatK _ _ _ _ (by simpa using c),C8];have e:l.toArray[j / k]! =l.getD (j / k) d:=by rw[getElem!_pos _ _ (by simpa using f),AC,AG f];simp
 rw[e];have b:j%k<(enc (l.getD (j / k) d)).length:=by rw[i];exact m
 have:=h.1 (j / k) (j%k) _ f (AG b);rw[Nat.div_add_mod']at this;rw[this,getElem!_pos (enc (l.getD (j / k) d)) (j%k) b];rfl
theorem EV.of_holds [Inhabited α] (n:∀x,(enc x).length=k) (h0:0<k) {w:World} {g:Nat} {l:List α} (d:α) (h:HoldsK enc k w g 0 l.toArray):EV enc k w g l.length fun a=>l.getD a d:=by
 have c:(flatK enc k l.toArray).size=l.length*k:=by rw[size_flatK];simp
 refine⟨fun a i u m j=>?_,fun x o=>?_⟩
 .have hi:i<k:=by
    rcases BF i (enc (l.getD a d)).length with h|h
    .rw [n]at h;exact h
    .rw [AY h]at j;cases j
  have f:a*k+i<l.length*k:=by have:(a+1)*k<=l.length*k:=CY _ m;rw[EH]at this;omega
  have:=(h (a*k+i) (by rw[c];exact f)).1;rw[C8,get_flatK _ _ _ _ (by simpa using f)]at this;have p:(a*k+i) / k=a:=by rw[D6,Nat.mul_add_div h0,Nat.div_eq_of_lt hi,D0]
  have q:(a*k+i)%k=i:=by rw[D6,Nat.mul_add_mod,Ez hi]
  rw[p,q]at this;have e:l.toArray[a]! =l.getD a d:=by rw[getElem!_pos _ _ (by simpa using m),AC,AG m];simp
  rw[e]at this;rw[this];have b:i<(enc (l.getD a d)).length:=by rw[n];exact hi
  rw[getElem!_pos (enc (l.getD a d)) i b];rw[AG b]at j;exact j
 .have:=(h x (by rw[c];exact o)).2;rwa [C8]at this
theorem Km [Inhabited α] {B:Nat} {w0 w:World} {g:Nat} (h:Below B w0 w) (a:B<=g) (e:B<=w.heap.size) (n:Nat) (d:Array α) (os:Array Obj):Below B w0 (sortWorldK enc k w g 0 n d os):=by
 unfold sortWorldK putRowK;have h1:=Lib.below_putRow (enc:=id) (q:=n) (d:=flatK enc k d) h a;have b:(putRow id (Sort.ahead w n) g 0 (flatK enc k d)).heap.size=w.heap.size:=by unfold putRow mapBlock Sort.ahead;simp
 generalize putRow id (Sort.ahead w n) g 0 (flatK enc k d)=W at *;refine⟨h1.os,h1.tape,h1.output,?_,fun j c=>?_⟩
 .have:=h1.size;simp[grow];omega
 .rw [<-h1.block j c];simp only[grow,Array.getElem?_append];rw[AU (by omega)]
theorem EV.reads (f:∀x,(enc x).length=k) (h0:0<k) {w:World} {g n B:Nat} {l:List α} (d:α) (h:EV enc k w g n fun a=>l.getD a d) (p:l.length<=n) (i:g<B):Reads w B k (some ⟨g,0,none⟩) l.length (B_ enc l):=by
 refine⟨Fu f l,fun _=>⟨_,rfl,i,fun j u c=>?_⟩⟩;rw[Gq,C8]
 have b:j<(B_ enc l).length:=by
  rcases BF j (B_ enc l).length with h|h
  .exact h
  .rw [AY h]at c;cases c
 rw[Fu f]at b;have m:j / k<l.length:=EP (by rw[D6];exact b);have o:j%k<k:=Cz _ h0;have e:=If f l d (j / k) (j%k) m o;rw[Nat.div_add_mod']at e;rw[e]at c;have:=h.1 (j / k) (j%k) u (by omega) c;rwa [Nat.div_add_mod']at this
theorem EV.of_own (o:∀x,(enc x).length=k) {w:World} {base n:Nat} {e:TypeId} {v:Value} {l:List α} (d:α) (h:w.ownsRow base e k v n (B_ enc l)) (z:l.length=n) (h1:0<n) :∃g cap,v=.slice (some ⟨g,0,none⟩) n cap/\base<=g/\g<w.heap.size/\n<=cap/\cap<=maxLen/\EV enc k w g n fun a=>l.getD a d:=by
 obtain⟨A,h|⟨g,cap,b,q,r,c,p,s,f,t⟩⟩:=h
 .omega
 have j:g<w.heap.size:=by
  rcases BF g w.heap.size with h|h
  .exact h
  .rw [Cn h]at c;cases c
 have y:n*k<=b.size:=by rw[f];exact CY _ p
 refine⟨g,cap,q,r,j,p,s,fun a i u B m=>?_,fun x C=>?_⟩
 .have hi:i<k:=by
    rcases BF i (enc (l.getD a d)).length with h|h
    .rw [o]at h;exact h
    .rw [AY h]at m;cases m
  have e:=If o l d a i (by omega) hi;rw[m,<-t]at e;rw[cell_of_row w g _ b _ (0,0) c,<-Array.getElem?_toList];rw[Dv]at e;split at e
  .exact e
  .cases e
 .simp [World.frozen?,c]
end
instance:Inhabited Tp:=⟨DI⟩
instance:Inhabited Ar:=⟨Cq⟩
theorem XP:∀w,(isAgg 54).run Tryz.prog w=.ok true w:=Tryz.isAgg54
theorem QH:∀w,(Go.sizeOf 54).run Tryz.prog w=.ok 2 w:=Tryz.sizeOf54
theorem XQ:∀w,(isAgg 61).run Tryz.prog w=.ok true w:=Tryz.isAgg61
theorem QI:∀w,(Go.sizeOf 61).run Tryz.prog w=.ok 8 w:=Tryz.sizeOf61
theorem MM (F:Nat) (o:∀args w,(callFunc F args).run Tryz.prog w=.ok (.enter F args) w) (p:∀(x y:Tp) (W:World),Calls Tryz.prog F #[.agg (CL x).toArray,.agg (CL y).toArray] W fun e w'=>e=.returned (.int .i64 (L_ x y))/\ML W w') (g c:Nat) (l:List Tp) (w:World) (r:EV CL 2 w g l.length fun a=>l.getD a DI) (i:g<w.heap.size) (u:l.length<=1000000) :Calls Tryz.prog 80 #[.slice (some ⟨g,0,none⟩) l.length c,.func (.func F) #[] #[]] w fun e w'=>e=.returned (.tuple #[])/\EV CL 2 w' g (Eo l).length (fun a=>(Eo l).getD a DI)/\(∀B,B<=g->Below B w w'):=by
 have j:=r.holds Dg (by decide)
 have h:=AnyQ.slices_SortFunc_total Tryz.sortTip 2 XP QH CL Dg GH L_ (Y4 Jw) F #[] g 0 c l.toArray w o
  (fun m os dk _ x y=>(p x y _).mono fun _ _ ⟨d,q,f,s⟩=>⟨d,q,f,s⟩) j i (by simp;omega) (Ty Jw XN)
 rw[CJ]at h;refine h.mono ?_;rintro e w' ⟨d,n,os,rfl⟩;have k:(Eo l)=l.mergeSort fun x y=>!(ltOf L_) y x:=rfl
 rw[<-k];have b:(Eo l).length=l.length:=by rw[k];exact EC _
 refine⟨d,EV.of_holds Dg (by decide) DI (holdsK_sortWorldK CL 2 w g 0 n l.toArray (Eo l).toArray os i j (by simp[b])),fun B t=>Km (AH B w) t (by omega) n _ os⟩
theorem T0 (F:Nat) (o:∀args w,(callFunc F args).run Tryz.prog w=.ok (.enter F args) w) (p:∀(x y:Ar) (W:World),Calls Tryz.prog F #[.agg (Cx x).toArray,.agg (Cx y).toArray] W fun e w'=>e=.returned (.int .i64 (QF x y))/\ML W w') (g c:Nat) (l:List Ar) (w:World) (r:EV Cx 8 w g l.length fun a=>l.getD a Cq) (i:g<w.heap.size) (u:l.length<=1000000) :Calls Tryz.prog 86 #[.slice (some ⟨g,0,none⟩) l.length c,.func (.func F) #[] #[]] w fun e w'=>e=.returned (.tuple #[])/\EV Cx 8 w' g (Jz l).length (fun a=>(Jz l).getD a Cq)/\(∀B,B<=g->Below B w w'):=by
 have j:=r.holds Ds (by decide)
 have h:=AnyQ.slices_SortFunc_total Tryz.sortArc 8 XQ QI Cx Ds ID QF (Y4 Tz) F #[] g 0 c l.toArray w o
  (fun m os dk _ x y=>(p x y _).mono fun _ _ ⟨d,q,f,s⟩=>⟨d,q,f,s⟩) j i (by simp;omega) (Ty Tz XO)
 rw[CJ]at h;refine h.mono ?_;rintro e w' ⟨d,n,os,rfl⟩;have k:(Jz l)=l.mergeSort fun x y=>!(ltOf QF) y x:=rfl
 rw[<-k];have b:(Jz l).length=l.length:=by rw[k];exact EC _
 refine⟨d,EV.of_holds Ds (by decide) Cq (holdsK_sortWorldK Cx 8 w g 0 n l.toArray (Jz l).toArray os i j (by simp[b])),fun B t=>Km (AH B w) t (by omega) n _ os⟩
theorem G0:(Tryz.prog.info? 54).map (fun i=>(i.zero,i.size,i.bytes))=some (some (.agg #[.int .i64 0,.string ByteArray.empty]),2,24):=by kernel_rfl
theorem Ig:(Tryz.prog.info? 61).map (fun i=>(i.zero,i.size,i.bytes))=some (some (.agg #[.int .i64 0,.int .i64 0,.int .u64 0,.int .u64 0,.int .u64 0,.int .u64 0,.string ByteArray.empty,.bool false]),8,72):=by kernel_rfl
end
section
open Go.RowKit Go.Sort Go.Lib
theorem RJ (z:Array Value) (n:Nat):(Builtin.zeroCells z n).toList.length=n*z.size:=by unfold Builtin.zeroCells;simp
theorem RK (z:Array Value) (n:Nat) (h0:0<z.size) (h:∀v∈z.toList,v.oneCell'=true):∀v∈(Builtin.zeroCells z n).toList,v.oneCell'=true:=by unfold Builtin.zeroCells;intro v a;rw[Array.toList_map,Bd]at a;obtain⟨i,_,rfl⟩:=a;have b:i%z.size<z.size:=Cz _ h0;rw[getElem!_pos z (i%z.size) b];exact h _ (Array.getElem_mem_toList _)
theorem O4 {P:Program} (w:World) (t e g:TypeId) (z:Value) (k:Nat) (i:P.underlying t=some (.slice e)) (l:∀w,(zeroValue e).run P w=.ok z w) (f:z.cells.size=k) (r:0<k) (h1:∀v∈z.cells.toList,v.oneCell'=true) (b o n c:Nat) (s:0<n) (p:∀j,j<n*k->(w.cell? ⟨b,o+j,none⟩).isSome=true) (q:∀j,j<n*k->w.frozen? ⟨b,o+j,none⟩=false) :(Builtin.clear_ #[t] g #[.slice (some ⟨b,o,none⟩) n c]).run P w=.ok (.tuple #[]) (w.setCells b o (Builtin.zeroCells z.cells n).toList):=by
 have a:(Builtin.zeroCells z.cells n).toList.length=n*k:=by rw[RJ,f]
 have d:=run_storeCells_cells (P:=P) b o (Builtin.zeroCells z.cells n).toList 0 w (by rw[a];simpa using p) (by rw[a];simpa using q) (RK _ _ (by omega) h1);simp only[D0]at d;obtain⟨m,rfl⟩:∃m,n=m+1:=⟨n-1,by omega⟩
 simp only[Builtin.clear_];simp[run_underlying i,l,d]
section
variable {α:Type} {enc:α->List Value} {k:Nat}
theorem EV.sub {w:World} {g n m:Nat} {M:Nat->α} (h:EV enc k w g n M) (b:m<=n):EV enc k w g m M:=⟨fun a i u e c=>h.1 a i u (by omega) c,fun x d=>h.2 x (Aj d (CY _ b))⟩
theorem EV.drewN {w:World} {g n:Nat} {M:Nat->α} (h:EV enc k w g n M) (q:Nat):EV enc k (w.drewN q) g n M:=h
theorem EV.below {w w':World} {g n B:Nat} {M:Nat->α} (h:EV enc k w g n M) (b:Below B w w') (c:g<B):EV enc k w' g n M:=⟨fun a i u d e=>(b.cell (p:=⟨g,a*k+i,none⟩) c).trans (h.1 a i u d e),fun x f=>(b.frozen (p:=⟨g,x,none⟩) c).trans (h.2 x f)⟩
theorem EV.cellAt (b:∀x,(enc x).length=k) {w:World} {g n:Nat} {M:Nat->α} (h:EV enc k w g n M) (x:Nat) (c:x<n*k) (h0:0<k):(w.cell? ⟨g,x,none⟩).isSome=true:=by
 have d:x%k<k:=Cz _ h0;have e:x / k<n:=EP (by rw[D6];exact c);have a:x%k<(enc (M (x / k))).length:=by rw[b];exact d
 have:=h.1 (x / k) (x%k) _ e (AG a);rw[Nat.div_add_mod']at this;rw[this];rfl
theorem EV.put (c:∀x,(enc x).length=k) (h0:0<k) {w:World} {g n:Nat} {M:Nat->α} (h:EV enc k w g n M) (q:Nat) (l:q<n) (x:α) :EV enc k (w.setCells g (q*k) (enc x)) g n fun a=>if a=q then x else M a:=by
 have d:(q+1)*k<=n*k:=CY _ l;rw[EH]at d;refine⟨fun a i u m b=>?_,fun y o=>by rw[World.frozen?_setCells];exact h.2 y o⟩;by_cases e:a=q
 .subst e
  replace b:(enc (if a=a then x else M a))[i]?=some u:=b;rw[AU rfl]at b
  have hi:i<(enc x).length:=by
   rcases BF i (enc x).length with h|h
   .exact h
   .rw [AY h]at b;cases b
  rw[World.cell?_setCells_in g (enc x) (a*k) w (fun j p=>h.cellAt c _ (by rw[c]at p;omega) h0) i hi];rw[AG hi]at b;exact b
 .replace b:(enc (if a=q then x else M a))[i]?=some u:=b
  rw[AP e]at b
  have hi:i<k:=by
   rcases BF i (enc (M a)).length with h|h
   .rw [c]at h;exact h
   .rw [AY h]at b;cases b
  rw[World.cell?_setCells_out]
  .exact h.1 a i u m b
  .intro _ _
   rw[c];rcases BF a q with f|r
   .left;have:(a+1)*k<=q*k:=CY _ f;rw[EH]at this;show a*k+i<q*k;omega
   .right;have:(q+1)*k<=a*k:=CY _ (by omega);rw[EH]at this;show q*k+k<=a*k+i;omega
theorem EV.ahead (c:∀x,(enc x).length=k) {w:World} {g n:Nat} {M:Nat->α} (h:EV enc k w g n M) (q:Nat) (vs:List Value):EV enc k (w.setCells g (q*k) vs) g (min q n) M:=by
 refine⟨fun a i u e b=>?_,fun y d=>by rw[World.frozen?_setCells];exact h.2 y (Aj d (CY _ (Nat.min_le_right _ _)))⟩
 have hi:i<k:=by
  rcases BF i (enc (M a)).length with h|h
  .rw [c]at h;exact h
  .rw [AY h]at b;cases b
 rw[World.cell?_setCells_out]
 .exact h.1 a i u (by omega) b
 .intro _ _;left;have:(a+1)*k<=q*k:=CY _ (by omega);rw[EH]at this;show a*k+i<q*k;omega
end
section
variable {α:Type} [DecidableEq α]
theorem Jj (x y:α) (l:List α):DX (x::y::l)=if x=y then DX (y::l)else x::DX (y::l):=rfl
theorem QJ:∀(l:List α) (x y:α),DX (l++[x,y])=if x=y then DX (l++[x])else DX (l++[x])++[y]
 | [],x,y=>by
  show DX (x::y::[])=if x=y then[x]else[x]++[y]
  rw[Jj];by_cases h:x=y
  .subst h;simp[DX]
  .simp [h,DX]
 | [z],x,y=>by
  show DX (z::x::[y])=if x=y then DX (z::x::[])else DX (z::x::[])++[y]
  rw[Jj,Jj,Jj];by_cases h:x=y<;>by_cases h2:z=x<;>simp[h,h2,DX]
 | z::a::l,x,y=>by
  have b:=QJ (a::l) x y;show DX (z::a::(l++[x,y]))=if x=y then DX (z::a::(l++[x]))else DX (z::a::(l++[x]))++[y]
  rw[Jj,Jj];have c:a::(l++[x,y])=(a::l)++[x,y]:=rfl;have d:a::(l++[x])=(a::l)++[x]:=rfl;rw[c,d,b];by_cases h:x=y<;>by_cases h2:z=a<;>simp[h,h2]
omit [DecidableEq α]in
theorem Y5 (l:List α) (d:α) (p:Nat) (h:p<l.length) (h1:1<=p):l.take (p+1)=l.take (p-1)++[l.getD (p-1) d,l.getD p d]/\l.take p=l.take (p-1)++[l.getD (p-1) d]:=by
 have a:l.take p=l.take (p-1)++[l.getD (p-1) d]:=by have:=Bq (l:=l) (i:=p-1) (by omega);rw[show p-1+1=p by omega]at this;rw[this,AC,AG (by omega)];rfl
 refine⟨?_,a⟩;rw[Bq h,a,AC (i:=p),AG h,Ac];rfl
theorem J4 (l:List α) (d:α) (p:Nat) (h:p<l.length) (h1:1<=p):DX (l.take (p+1))=if l.getD (p-1) d=l.getD p d then DX (l.take p)else DX (l.take p)++[l.getD p d]:=by obtain⟨a,b⟩:=Y5 l d p h h1;rw[a,b];exact QJ _ _ _
theorem Jk (l:List α):∀p,(DX (l.take p)).length<=p
 | 0=>by simp[DX]
 | 1=>by
  cases l with
  | nil=>simp[DX]
  | cons x l=>simp[DX]
 | p+2=>by
  have a:=Jk l (p+1);rcases BF (p+1) l.length with h|h
  .rw [J4 l (l[p+1]) (p+1) h (by omega)]
   split
   .omega
   .simp;omega
  .rw [BX (by omega)];rw[BX (by omega)]at a;omega
end
end
section
open Go.RowKit Go.Sort
theorem N0 (g c:Nat) (l:List Tp) (w:World) (C:EV CL 2 w g l.length fun a=>l.getD a DI) (hg:g<w.heap.size) (hc:l.length<=c) (_hm:c<=maxLen) (hn:l.length<=1000000) :Calls Tryz.prog 81 #[.slice (some ⟨g,0,none⟩) l.length c] w fun e w'=>e=.returned (.slice (some ⟨g,0,none⟩) (DX l).length c)/\EV CL 2 w' g (DX l).length (fun a=>(DX l).getD a DI)/\(∀B,B<=g->Below B w w'):=by
 unfold maxLen at _hm;by_cases h2:l.length<2
 .have e:DX l=l:=by
    match l,h2 with
    | [],_=>rfl
    | [x],_=>rfl
  rw[e];have s:=AB C;clear C e;generalize l.length=n at *;go_enter Tryz.func81,Tryz.ntmps81;go_wp2;go_ret;exact⟨rfl,s.out,fun B _=>AH B _⟩
 generalize U:l.length=n at *;have F:=AB U;clear U;have HT:=AB C;clear C;generalize V:DX l=rl at *;have X:=AB V;clear V;go_enter Tryz.func81,Tryz.ntmps81;go_wp2;go_loopw [3] (fun i wr=>∃k:Nat,1<=k/\k<=n/\i=.int .i64 k/\EV CL 2 wr g n (fun a=>l.getD a DI)/\(∀B,B<=g->Below B w wr)/\g<wr.heap.size/\DX (l.take k)=l.take k) (fun i _=>n-(intOf i).toNat)
 case atStart=>exact⟨1,by omega,by omega,rfl,HT.out,fun B _=>AH B _,hg,by cases l<;>rfl⟩
 case round=>
  obtain⟨k,ac,ai,rfl,C,M,z,Y⟩:=hrel;by_cases aa:k<n
  .have aj:(0:Int)<=(k:Int):=by omega
   have ak:(k:Int)<(n:Int):=by omega
   have al:(0:Int)<=(k:Int)-1:=by omega
   have am:(k:Int)-1<(n:Int):=by omega
   have an:((k:Int)-1).toNat=k-1:=by omega
   have r:=J4 l DI k (by have:=F.out;omega) ac;have b:∀a i u,a<n->(CL (l.getD a DI))[i]?=some u->wr.cell? ⟨g,a*2+i,none⟩=some u:=C.1
   have R:=AF (show wr.cell? ⟨g,k*2,none⟩=some (.int .i64 (l.getD k DI).st)from b k 0 _ aa rfl);have S:=AF (show wr.cell? ⟨g,k*2+1,none⟩=some (.string (l.getD k DI).out)from b k 1 _ aa rfl);have y0:=AF (show wr.cell? ⟨g,(k-1)*2,none⟩=some (.int .i64 (l.getD (k-1) DI).st)from b (k-1) 0 _ (by omega) rfl);have y1:=AF (show wr.cell? ⟨g,(k-1)*2+1,none⟩=some (.string (l.getD (k-1) DI).out)from b (k-1) 1 _ (by omega) rfl);have N:∀W,(binOp .eql 54 (.agg #[.int .i64 (l.getD k DI).st,.string (l.getD k DI).out]) (.agg #[.int .i64 (l.getD (k-1) DI).st,.string (l.getD (k-1) DI).out])).run Tryz.prog W=.ok (.bool (decide (l.getD k DI=l.getD (k-1) DI))) W:=fun W=>X0X W (l.getD k DI) (l.getD (k-1) DI)
   have s:=AB C;have A:=AB M;have Ho:=AB Y;have m:=AB r;clear C M Y r b;generalize hx:l.getD k DI=x at *;generalize hy:l.getD (k-1) DI=y at *;have Hx:=AB hx;have Hy:=AB hy;clear hx hy;by_cases o:x=y
   .have I:decide (x=y)=true:=DK o
    rw[I]at N;clear I;have D:=AB o;clear o;go_wp2;refine Au (by kernel_rfl) (by kernel_rfl) ?_
    repeat (go_big_quiet_step (fail))
    refine Ah ?_;intro w5 J;have d:=Bu J;have f:=s.out.below d z;have O:∀B,B<=g->Below B w w5:=fun B H=>(A.out B H).trans (d.mono (by omega))
    have p:g<w5.heap.size:=Aj z d.size;clear R y0;clear S y1;clear J d N;have K:=AB f;have L6:=AB O;clear f O;have P:¬c=k:=by omega
    have ao:=AB P;clear P;have P:¬c=k:=by omega
    go_wp2;go_loopw [5,3] (fun k2 i wr=>∃t q:Nat,1<=t/\k+t<=n/\k2=.int .i64 t/\i=.int .i64 q/\q+1<=k+t/\q=(DX (l.take (k+t))).length/\EV CL 2 wr g n (fun a=>if a<q then(DX (l.take (k+t))).getD a DI else l.getD a DI)/\(∀B,B<=g->Below B w wr)/\g<wr.heap.size) (fun k2 _ _=>n-k-(intOf k2).toNat)
    case atStart=>
     have E:=m.out;rw[AU D.out.symm,Ho.out]at E;have hl:=F.out;refine⟨1,k,by omega,by omega,rfl,rfl,by omega,by rw[E,Cv];omega,K.out.congr fun a ha=>?_,L6.out,p⟩;rw[E];split
     .rename_i ad;rw[AC,AC,Dv,AU ad]
     .rfl
    case round=>
     clear K L6 p m Hx Hy Ho D s A z;obtain⟨t,q,ap,aq,rfl,rfl,ar,T,C,M,z⟩:=hrel;by_cases G:k+t<n
     .have au:(0:Int)<=(t:Int):=by omega
      have av:(t:Int)<((n-k:Nat):Int):=by omega
      have aw:(0:Int)<=(t:Int)-1:=by omega
      have ax:(t:Int)-1<((n-k:Nat):Int):=by omega
      have ay:((t:Int)-1).toNat=t-1:=by omega
      have az:t<n-k:=by omega
      have a0:(t:Int)<(n:Int)-(k:Int):=by omega
      have a1:(t:Int)-1<(n:Int)-(k:Int):=by omega
      have r:=J4 l DI (k+t) (by have:=F.out;omega) (by omega);have b:∀a i u,q<=a->a<n->(CL (l.getD a DI))[i]?=some u->wr.cell? ⟨g,a*2+i,none⟩=some u:=fun a i u ae ha hu=>C.1 a i u ha (by simp only[AP (Nat.not_lt.2 ae)];exact hu)
      have R:=AF (show wr.cell? ⟨g,k*2+t*2,none⟩=some (.int .i64 (l.getD (k+t) DI).st)from by have:=b (k+t) 0 _ (by omega) G rfl;rw[Ce]at this;exact this);have S:=AF (show wr.cell? ⟨g,k*2+t*2+1,none⟩=some (.string (l.getD (k+t) DI).out)from by have:=b (k+t) 1 _ (by omega) G rfl;rw[Ce]at this;exact this);have y0:=AF (show wr.cell? ⟨g,k*2+(t-1)*2,none⟩=some (.int .i64 (l.getD (k+t-1) DI).st)from by have:=b (k+t-1) 0 _ (by omega) (by omega) rfl;rw[show k+t-1=k+(t-1)by omega,Ce]at this;rw[show k+(t-1)=k+t-1 by omega]at this;exact this);have y1:=AF (show wr.cell? ⟨g,k*2+(t-1)*2+1,none⟩=some (.string (l.getD (k+t-1) DI).out)from by have:=b (k+t-1) 1 _ (by omega) (by omega) rfl;rw[show k+t-1=k+(t-1)by omega,Ce]at this;rw[show k+(t-1)=k+t-1 by omega]at this;exact this);have N:∀W,(binOp .neq 54 (.agg #[.int .i64 (l.getD (k+t) DI).st,.string (l.getD (k+t) DI).out]) (.agg #[.int .i64 (l.getD (k+t-1) DI).st,.string (l.getD (k+t-1) DI).out])).run Tryz.prog W=.ok (.bool (!decide (l.getD (k+t) DI=l.getD (k+t-1) DI))) W:=fun W=>X0Y W (l.getD (k+t) DI) (l.getD (k+t-1) DI)
      have s:=AB C;have A:=AB M;have Hq:=AB T;have m:=AB r;clear C M r b T;generalize hx:l.getD (k+t) DI=x at *;generalize hy:l.getD (k+t-1) DI=y at *;have Hx:=AB hx;have Hy:=AB hy;clear hx hy;by_cases o:x=y
      .have I:(!decide (x=y))=false:=by rw[DK o];rfl
       rw[I]at N;clear I;have D:=AB o;clear o;go_wp2;refine Au (by kernel_rfl) (by kernel_rfl) ?_
       repeat (go_big_quiet_step (fail))
       refine Ah ?_;intro Q L;have d:=Bu L;have f:=AB (s.out.below d z);have O:=AB (show ∀B,B<=g->Below B w Q from fun B H=>(A.out B H).trans (d.mono (by omega)));have p:g<Q.heap.size:=Aj z d.size;clear R y0;clear S y1;clear L d N;go_wp2;go_roundw
       case rel=>
        have E:=m.out;rw[AU D.out.symm]at E;refine⟨t+1,q,by omega,by omega,by go_num,rfl,by omega,?_,?_,O.out,p⟩
        .rw [<-Dx,E];exact Hq.out
        .rw [<-Dx,E];exact f.out
       case measure=>simp[intOf];omega
      .have I:(!decide (x=y))=true:=by rw[DB o];rfl
       rw[I]at N;clear I;have D:=AB o;clear o;go_wp2;refine Au (by kernel_rfl) (by kernel_rfl) ?_
       repeat (go_big_quiet_step (fail))
       refine Ah ?_;intro Q L;have d:=Bu L;have f:=s.out.below d z;have O:=AB (show ∀B,B<=g->Below B w Q from fun B H=>(A.out B H).trans (d.mono (by omega)));have p:g<Q.heap.size:=Aj z d.size;clear R y0;clear S y1;have R:=(show Q.cell? ⟨g,k*2+t*2,none⟩=some (.int .i64 x.st)from by have:=f.1 (k+t) 0 _ G (by simp only[AP (show ¬k+t<q by omega)];rfl);rw[Hx.out,Ce]at this;exact this);have S:=(show Q.cell? ⟨g,k*2+t*2+1,none⟩=some (.string x.out)from by have:=f.1 (k+t) 1 _ G (by simp only[AP (show ¬k+t<q by omega)];rfl);rw[Hx.out,Ce]at this;exact this);obtain⟨v0,z0⟩:=CZ.1 (f.cellAt Dg (q*2+0) (by omega) (by decide));have f0:=f.2 (q*2+0) (by omega);obtain⟨v1,z1⟩:=CZ.1 (f.cellAt Dg (q*2+1) (by omega) (by decide));have f1:=f.2 (q*2+1) (by omega);simp only[D0]at z0 f0;have HP:=AB (f.put Dg (by decide) q (by omega) x);have K:=AB f;clear L d N f;have af:(0:Int)<=(q:Int):=by omega
       have ag:(q:Int)<(n:Int):=by omega
       go_wp2;go_roundw
       case rel=>
        have E:=m.out;rw[AP (fun h=>D.out h.symm)]at E;refine⟨t+1,q+1,by omega,by omega,by go_num,by go_num,by omega,?_,?_,?_,?_⟩
        .rw [<-Dx,E,AJ,<-Hq.out];rfl
        .rw [<-Dx,E]
         refine HP.out.congr fun a ha=>?_
         have T:=Hq.out;by_cases h1:a=q
         .rw [AU h1,AU (by omega),h1,AC,CT (by omega),<-T];simp
         .rw [AP h1]
          by_cases h2:a<q
          .rw [AU h2,AU (by omega),AC,AC,Bi (by omega)]
          .rw [AP h2,AP (by omega)]
        .exact fun B H=>Go.Lib.below_setCells g H (CL x) (q*2) (O.out B H)
        .simpa using p
       case measure=>simp[intOf];omega
     .have e:k+t=n:=by omega
      have af:(0:Int)<=(q:Int):=by omega
      have ag:(q:Int)<=(n:Int):=by omega
      have a2:(q:Int)<=(c:Int):=by omega
      have a3:¬c=q:=by omega
      have ab:∀ty,(Builtin.clear_ #[29] ty #[.slice (some ⟨g,q*2,none⟩) (n-q) (c-q)]).run Tryz.prog wr=.ok (.tuple #[]) (wr.setCells g (q*2) (Builtin.zeroCells (Value.cells (.agg #[.int .i64 0,.string ByteArray.empty])) (n-q)).toList):=fun ty=>
       O4 wr 29 54 ty (.agg #[.int .i64 0,.string ByteArray.empty]) 2 Tryz.underlying29 Tryz.zeroValue54 rfl (by decide) (by intro v hv;simp[Value.cells]at hv;rcases hv with rfl|rfl<;>rfl) g (q*2) (n-q) (c-q) (by omega)
        (fun j hj=>C.cellAt Dg _ (by rw[Fo]at hj;omega) (by decide)) (fun j hj=>C.2 _ (by rw[Fo]at hj;omega))
      generalize (Builtin.zeroCells (Value.cells (.agg #[.int .i64 0,.string ByteArray.empty])) (n-q)).toList=Z at ab;have HA:=C.ahead Dg q Z;rw[Nat.min_eq_left (show q<=n by omega)]at HA;have e2:DX (l.take (k+t))=rl:=by rw[e,<-X.out,<-F.out,CR]
      rw[e2]at HA T;have ah:=AB (HA.congr (M':=fun a=>rl.getD a DI) fun a ha=>by rw[AU ha]);have A:=AB (show ∀B,B<=g->Below B w (wr.setCells g (q*2) Z)from fun B H=>Go.Lib.below_setCells g H Z (q*2) (M B H));clear HA C M e2;subst T;go_wp2;go_ret;exact⟨rfl,ah.out,A.out⟩
   .have I:decide (x=y)=false:=DB o
    rw[I]at N;clear I;have D:=AB o;clear o;go_wp2;refine Au (by kernel_rfl) (by kernel_rfl) ?_
    repeat (go_big_quiet_step (fail))
    refine Ah ?_;intro w5 J;have d:=Bu J;have f:=s.out.below d z;have O:∀B,B<=g->Below B w w5:=fun B H=>(A.out B H).trans (d.mono (by omega))
    have p:g<w5.heap.size:=Aj z d.size;clear R y0;clear S y1;clear J d N;have K:=AB f;have L6:=AB O;clear f O;go_wp2;go_roundw
    case rel=>refine⟨k+1,by omega,by omega,by go_num,K.out,L6.out,p,?_⟩;have E:=m.out;rw[AP (fun h=>D.out h.symm),Ho.out]at E;rw[E,<-Hx.out];have hl:=F.out;rw[AC,AG (by omega),Bq (by omega)];rfl
    case measure=>simp[intOf];omega
  .have e:k=n:=by omega
   subst e;have E:rl=l:=by have h1:=X.out;rw[<-F.out,CR]at Y;rw[<-h1,Y]
   have s:=AB C;have A:=AB M;have E1:=AB E;clear C M Y E;go_wp2;go_ret;rw[E1.out,F.out];exact⟨rfl,s.out,A.out⟩
theorem Su (g c:Nat) (l:List Ar) (w:World) (F:EV Cx 8 w g l.length fun a=>l.getD a Cq) (hg:g<w.heap.size) (hc:l.length<=c) (_hm:c<=maxLen) (hn:l.length<=1000000) :Calls Tryz.prog 87 #[.slice (some ⟨g,0,none⟩) l.length c] w fun e w'=>e=.returned (.slice (some ⟨g,0,none⟩) (DX l).length c)/\EV Cx 8 w' g (DX l).length (fun a=>(DX l).getD a Cq)/\(∀B,B<=g->Below B w w'):=by
 unfold maxLen at _hm;by_cases h2:l.length<2
 .have e:DX l=l:=by
    match l,h2 with
    | [],_=>rfl
    | [x],_=>rfl
  rw[e];have C:=AB F;clear F e;generalize l.length=n at *;go_enter Tryz.func87,Tryz.ntmps87;go_wp2;go_ret;exact⟨rfl,C.out,fun B _=>AH B _⟩
 generalize aa:l.length=n at *;have J:=AB aa;clear aa;have HT:=AB F;clear F;generalize ab:DX l=rl at *;have ac:=AB ab;clear ab;go_enter Tryz.func87,Tryz.ntmps87;go_wp2;go_loopw [3] (fun i wr=>∃k:Nat,1<=k/\k<=n/\i=.int .i64 k/\EV Cx 8 wr g n (fun a=>l.getD a Cq)/\(∀B,B<=g->Below B w wr)/\g<wr.heap.size/\DX (l.take k)=l.take k) (fun i _=>n-(intOf i).toNat)
 case atStart=>exact⟨1,by omega,by omega,rfl,HT.out,fun B _=>AH B _,hg,by cases l<;>rfl⟩
 case round=>
  obtain⟨k,ae,ak,rfl,F,R,D,ho⟩:=hrel;by_cases G:k<n
  .have al:(0:Int)<=(k:Int):=by omega
   have am:(k:Int)<(n:Int):=by omega
   have an:(0:Int)<=(k:Int)-1:=by omega
   have ao:(k:Int)-1<(n:Int):=by omega
   have ap:((k:Int)-1).toNat=k-1:=by omega
   have A:=J4 l Cq k (by have:=J.out;omega) ae;have f:∀a i u,a<n->(Cx (l.getD a Cq))[i]?=some u->wr.cell? ⟨g,a*8+i,none⟩=some u:=F.1
   have V:=AF (show wr.cell? ⟨g,k*8,none⟩=some (.int .i64 (l.getD k Cq).fr)from f k 0 _ G rfl);have X:=AF (show wr.cell? ⟨g,k*8+1,none⟩=some (.int .i64 (l.getD k Cq).to)from f k 1 _ G rfl);have Y:=AF (show wr.cell? ⟨g,k*8+2,none⟩=some (.int .u64 ((l.getD k Cq).set.a:Int))from f k 2 _ G rfl);have x3:=AF (show wr.cell? ⟨g,k*8+3,none⟩=some (.int .u64 ((l.getD k Cq).set.b:Int))from f k 3 _ G rfl);have x4:=AF (show wr.cell? ⟨g,k*8+4,none⟩=some (.int .u64 ((l.getD k Cq).set.c:Int))from f k 4 _ G rfl);have x5:=AF (show wr.cell? ⟨g,k*8+5,none⟩=some (.int .u64 ((l.getD k Cq).set.d:Int))from f k 5 _ G rfl);have x6:=AF (show wr.cell? ⟨g,k*8+6,none⟩=some (.string (l.getD k Cq).out)from f k 6 _ G rfl);have x7:=AF (show wr.cell? ⟨g,k*8+7,none⟩=some (.bool (l.getD k Cq).cp)from f k 7 _ G rfl);have y0:=AF (show wr.cell? ⟨g,(k-1)*8,none⟩=some (.int .i64 (l.getD (k-1) Cq).fr)from f (k-1) 0 _ (by omega) rfl);have y1:=AF (show wr.cell? ⟨g,(k-1)*8+1,none⟩=some (.int .i64 (l.getD (k-1) Cq).to)from f (k-1) 1 _ (by omega) rfl);have y2:=AF (show wr.cell? ⟨g,(k-1)*8+2,none⟩=some (.int .u64 ((l.getD (k-1) Cq).set.a:Int))from f (k-1) 2 _ (by omega) rfl);have y3:=AF (show wr.cell? ⟨g,(k-1)*8+3,none⟩=some (.int .u64 ((l.getD (k-1) Cq).set.b:Int))from f (k-1) 3 _ (by omega) rfl);have y4:=AF (show wr.cell? ⟨g,(k-1)*8+4,none⟩=some (.int .u64 ((l.getD (k-1) Cq).set.c:Int))from f (k-1) 4 _ (by omega) rfl);have y5:=AF (show wr.cell? ⟨g,(k-1)*8+5,none⟩=some (.int .u64 ((l.getD (k-1) Cq).set.d:Int))from f (k-1) 5 _ (by omega) rfl);have y6:=AF (show wr.cell? ⟨g,(k-1)*8+6,none⟩=some (.string (l.getD (k-1) Cq).out)from f (k-1) 6 _ (by omega) rfl);have y7:=AF (show wr.cell? ⟨g,(k-1)*8+7,none⟩=some (.bool (l.getD (k-1) Cq).cp)from f (k-1) 7 _ (by omega) rfl);have S:∀W,(binOp .eql 61 (.agg #[.int .i64 (l.getD k Cq).fr,.int .i64 (l.getD k Cq).to,.int .u64 ((l.getD k Cq).set.a:Int),.int .u64 ((l.getD k Cq).set.b:Int),.int .u64 ((l.getD k Cq).set.c:Int),.int .u64 ((l.getD k Cq).set.d:Int),.string (l.getD k Cq).out,.bool (l.getD k Cq).cp]) (.agg #[.int .i64 (l.getD (k-1) Cq).fr,.int .i64 (l.getD (k-1) Cq).to,.int .u64 ((l.getD (k-1) Cq).set.a:Int),.int .u64 ((l.getD (k-1) Cq).set.b:Int),.int .u64 ((l.getD (k-1) Cq).set.c:Int),.int .u64 ((l.getD (k-1) Cq).set.d:Int),.string (l.getD (k-1) Cq).out,.bool (l.getD (k-1) Cq).cp])).run Tryz.prog W=.ok (.bool (decide (l.getD k Cq=l.getD (k-1) Cq))) W:=fun W=>X0Z W (l.getD k Cq) (l.getD (k-1) Cq)
   have C:=AB F;have E:=AB R;have Ho:=AB ho;have r:=AB A;clear F R ho A f;generalize hx:l.getD k Cq=x at *;generalize hy:l.getD (k-1) Cq=y at *;have M:=AB hx;have Hy:=AB hy;clear hx hy;by_cases s:x=y
   .have N:decide (x=y)=true:=DK s
    rw[N]at S;clear N;have H:=AB s;clear s;go_wp2;refine Au (by kernel_rfl) (by kernel_rfl) ?_
    repeat (go_big_quiet_step (fail))
    refine Ah ?_;intro w5 O;have p:=Bu O;have m:=C.out.below p D;have T:∀B,B<=g->Below B w w5:=fun B K=>(E.out B K).trans (p.mono (by omega))
    have z:g<w5.heap.size:=Aj D p.size;clear V y0;clear X y1;clear Y y2;clear x3 y3;clear x4 y4;clear x5 y5;clear x6 y6;clear x7 y7;clear O p S;have P:=AB m;have L6:=AB T;clear m T;have U:¬c=k:=by omega
    have aq:=AB U;clear U;have U:¬c=k:=by omega
    go_wp2;go_loopw [5,3] (fun k2 i wr=>∃t q:Nat,1<=t/\k+t<=n/\k2=.int .i64 t/\i=.int .i64 q/\q+1<=k+t/\q=(DX (l.take (k+t))).length/\EV Cx 8 wr g n (fun a=>if a<q then(DX (l.take (k+t))).getD a Cq else l.getD a Cq)/\(∀B,B<=g->Below B w wr)/\g<wr.heap.size) (fun k2 _ _=>n-k-(intOf k2).toNat)
    case atStart=>
     have I:=r.out;rw[AU H.out.symm,Ho.out]at I;have hl:=J.out;refine⟨1,k,by omega,by omega,rfl,rfl,by omega,by rw[I,Cv];omega,P.out.congr fun a ha=>?_,L6.out,z⟩;rw[I];split
     .rename_i af;rw[AC,AC,Dv,AU af]
     .rfl
    case round=>
     clear P L6 z r M Hy Ho H C E D;obtain⟨t,q,ar,au,rfl,rfl,av,hq,F,R,D⟩:=hrel;by_cases o:k+t<n
     .have aw:(0:Int)<=(t:Int):=by omega
      have ax:(t:Int)<((n-k:Nat):Int):=by omega
      have ay:(0:Int)<=(t:Int)-1:=by omega
      have az:(t:Int)-1<((n-k:Nat):Int):=by omega
      have a0:((t:Int)-1).toNat=t-1:=by omega
      have a1:t<n-k:=by omega
      have a2:(t:Int)<(n:Int)-(k:Int):=by omega
      have a3:(t:Int)-1<(n:Int)-(k:Int):=by omega
      have A:=J4 l Cq (k+t) (by have:=J.out;omega) (by omega);have f:∀a i u,q<=a->a<n->(Cx (l.getD a Cq))[i]?=some u->wr.cell? ⟨g,a*8+i,none⟩=some u:=fun a i u ag ha hu=>F.1 a i u ha (by simp only[AP (Nat.not_lt.2 ag)];exact hu)
      have V:=AF (show wr.cell? ⟨g,k*8+t*8,none⟩=some (.int .i64 (l.getD (k+t) Cq).fr)from by have:=f (k+t) 0 _ (by omega) o rfl;rw[Ce]at this;exact this);have X:=AF (show wr.cell? ⟨g,k*8+t*8+1,none⟩=some (.int .i64 (l.getD (k+t) Cq).to)from by have:=f (k+t) 1 _ (by omega) o rfl;rw[Ce]at this;exact this);have Y:=AF (show wr.cell? ⟨g,k*8+t*8+2,none⟩=some (.int .u64 ((l.getD (k+t) Cq).set.a:Int))from by have:=f (k+t) 2 _ (by omega) o rfl;rw[Ce]at this;exact this);have x3:=AF (show wr.cell? ⟨g,k*8+t*8+3,none⟩=some (.int .u64 ((l.getD (k+t) Cq).set.b:Int))from by have:=f (k+t) 3 _ (by omega) o rfl;rw[Ce]at this;exact this);have x4:=AF (show wr.cell? ⟨g,k*8+t*8+4,none⟩=some (.int .u64 ((l.getD (k+t) Cq).set.c:Int))from by have:=f (k+t) 4 _ (by omega) o rfl;rw[Ce]at this;exact this);have x5:=AF (show wr.cell? ⟨g,k*8+t*8+5,none⟩=some (.int .u64 ((l.getD (k+t) Cq).set.d:Int))from by have:=f (k+t) 5 _ (by omega) o rfl;rw[Ce]at this;exact this);have x6:=AF (show wr.cell? ⟨g,k*8+t*8+6,none⟩=some (.string (l.getD (k+t) Cq).out)from by have:=f (k+t) 6 _ (by omega) o rfl;rw[Ce]at this;exact this);have x7:=AF (show wr.cell? ⟨g,k*8+t*8+7,none⟩=some (.bool (l.getD (k+t) Cq).cp)from by have:=f (k+t) 7 _ (by omega) o rfl;rw[Ce]at this;exact this);have y0:=AF (show wr.cell? ⟨g,k*8+(t-1)*8,none⟩=some (.int .i64 (l.getD (k+t-1) Cq).fr)from by have:=f (k+t-1) 0 _ (by omega) (by omega) rfl;rw[show k+t-1=k+(t-1)by omega,Ce]at this;rw[show k+(t-1)=k+t-1 by omega]at this;exact this);have y1:=AF (show wr.cell? ⟨g,k*8+(t-1)*8+1,none⟩=some (.int .i64 (l.getD (k+t-1) Cq).to)from by have:=f (k+t-1) 1 _ (by omega) (by omega) rfl;rw[show k+t-1=k+(t-1)by omega,Ce]at this;rw[show k+(t-1)=k+t-1 by omega]at this;exact this);have y2:=AF (show wr.cell? ⟨g,k*8+(t-1)*8+2,none⟩=some (.int .u64 ((l.getD (k+t-1) Cq).set.a:Int))from by have:=f (k+t-1) 2 _ (by omega) (by omega) rfl;rw[show k+t-1=k+(t-1)by omega,Ce]at this;rw[show k+(t-1)=k+t-1 by omega]at this;exact this);have y3:=AF (show wr.cell? ⟨g,k*8+(t-1)*8+3,none⟩=some (.int .u64 ((l.getD (k+t-1) Cq).set.b:Int))from by have:=f (k+t-1) 3 _ (by omega) (by omega) rfl;rw[show k+t-1=k+(t-1)by omega,Ce]at this;rw[show k+(t-1)=k+t-1 by omega]at this;exact this);have y4:=AF (show wr.cell? ⟨g,k*8+(t-1)*8+4,none⟩=some (.int .u64 ((l.getD (k+t-1) Cq).set.c:Int))from by have:=f (k+t-1) 4 _ (by omega) (by omega) rfl;rw[show k+t-1=k+(t-1)by omega,Ce]at this;rw[show k+(t-1)=k+t-1 by omega]at this;exact this);have y5:=AF (show wr.cell? ⟨g,k*8+(t-1)*8+5,none⟩=some (.int .u64 ((l.getD (k+t-1) Cq).set.d:Int))from by have:=f (k+t-1) 5 _ (by omega) (by omega) rfl;rw[show k+t-1=k+(t-1)by omega,Ce]at this;rw[show k+(t-1)=k+t-1 by omega]at this;exact this)
      have y6:=AF (show wr.cell? ⟨g,k*8+(t-1)*8+6,none⟩=some (.string (l.getD (k+t-1) Cq).out)from by have:=f (k+t-1) 6 _ (by omega) (by omega) rfl;rw[show k+t-1=k+(t-1)by omega,Ce]at this;rw[show k+(t-1)=k+t-1 by omega]at this;exact this);have y7:=AF (show wr.cell? ⟨g,k*8+(t-1)*8+7,none⟩=some (.bool (l.getD (k+t-1) Cq).cp)from by have:=f (k+t-1) 7 _ (by omega) (by omega) rfl;rw[show k+t-1=k+(t-1)by omega,Ce]at this;rw[show k+(t-1)=k+t-1 by omega]at this;exact this);have S:∀W,(binOp .neq 61 (.agg #[.int .i64 (l.getD (k+t) Cq).fr,.int .i64 (l.getD (k+t) Cq).to,.int .u64 ((l.getD (k+t) Cq).set.a:Int),.int .u64 ((l.getD (k+t) Cq).set.b:Int),.int .u64 ((l.getD (k+t) Cq).set.c:Int),.int .u64 ((l.getD (k+t) Cq).set.d:Int),.string (l.getD (k+t) Cq).out,.bool (l.getD (k+t) Cq).cp]) (.agg #[.int .i64 (l.getD (k+t-1) Cq).fr,.int .i64 (l.getD (k+t-1) Cq).to,.int .u64 ((l.getD (k+t-1) Cq).set.a:Int),.int .u64 ((l.getD (k+t-1) Cq).set.b:Int),.int .u64 ((l.getD (k+t-1) Cq).set.c:Int),.int .u64 ((l.getD (k+t-1) Cq).set.d:Int),.string (l.getD (k+t-1) Cq).out,.bool (l.getD (k+t-1) Cq).cp])).run Tryz.prog W=.ok (.bool (!decide (l.getD (k+t) Cq=l.getD (k+t-1) Cq))) W:=fun W=>X1a W (l.getD (k+t) Cq) (l.getD (k+t-1) Cq)
      have C:=AB F;have E:=AB R;have Hq:=AB hq;have r:=AB A;clear F R A f hq;generalize hx:l.getD (k+t) Cq=x at *;generalize hy:l.getD (k+t-1) Cq=y at *;have M:=AB hx;have Hy:=AB hy;clear hx hy;by_cases s:x=y
      .have N:(!decide (x=y))=false:=by rw[DK s];rfl
       rw[N]at S;clear N;have H:=AB s;clear s;go_wp2;refine Au (by kernel_rfl) (by kernel_rfl) ?_
       repeat (go_big_quiet_step (fail))
       refine Ah ?_;intro L Q;have p:=Bu Q;have m:=AB (C.out.below p D);have T:=AB (show ∀B,B<=g->Below B w L from fun B K=>(E.out B K).trans (p.mono (by omega)));have z:g<L.heap.size:=Aj D p.size;clear V y0;clear X y1;clear Y y2;clear x3 y3;clear x4 y4;clear x5 y5;clear x6 y6;clear x7 y7;clear Q p S;go_wp2;go_roundw
       case rel=>
        have I:=r.out;rw[AU H.out.symm]at I;refine⟨t+1,q,by omega,by omega,by go_num,rfl,by omega,?_,?_,T.out,z⟩
        .rw [<-Dx,I];exact Hq.out
        .rw [<-Dx,I];exact m.out
       case measure=>simp[intOf];omega
      .have N:(!decide (x=y))=true:=by rw[DB s];rfl
       rw[N]at S;clear N;have H:=AB s;clear s;go_wp2;refine Au (by kernel_rfl) (by kernel_rfl) ?_
       repeat (go_big_quiet_step (fail))
       refine Ah ?_;intro L Q;have p:=Bu Q;have m:=C.out.below p D;have T:=AB (show ∀B,B<=g->Below B w L from fun B K=>(E.out B K).trans (p.mono (by omega)));have z:g<L.heap.size:=Aj D p.size;clear V y0;clear X y1;clear Y y2;clear x3 y3;clear x4 y4;clear x5 y5;clear x6 y6;clear x7 y7;have V:=(show L.cell? ⟨g,k*8+t*8,none⟩=some (.int .i64 x.fr)from by have:=m.1 (k+t) 0 _ o (by simp only[AP (show ¬k+t<q by omega)];rfl);rw[M.out,Ce]at this;exact this);have X:=(show L.cell? ⟨g,k*8+t*8+1,none⟩=some (.int .i64 x.to)from by have:=m.1 (k+t) 1 _ o (by simp only[AP (show ¬k+t<q by omega)];rfl);rw[M.out,Ce]at this;exact this);have Y:=(show L.cell? ⟨g,k*8+t*8+2,none⟩=some (.int .u64 (x.set.a:Int))from by have:=m.1 (k+t) 2 _ o (by simp only[AP (show ¬k+t<q by omega)];rfl);rw[M.out,Ce]at this;exact this);have x3:=(show L.cell? ⟨g,k*8+t*8+3,none⟩=some (.int .u64 (x.set.b:Int))from by have:=m.1 (k+t) 3 _ o (by simp only[AP (show ¬k+t<q by omega)];rfl);rw[M.out,Ce]at this;exact this);have x4:=(show L.cell? ⟨g,k*8+t*8+4,none⟩=some (.int .u64 (x.set.c:Int))from by have:=m.1 (k+t) 4 _ o (by simp only[AP (show ¬k+t<q by omega)];rfl);rw[M.out,Ce]at this;exact this);have x5:=(show L.cell? ⟨g,k*8+t*8+5,none⟩=some (.int .u64 (x.set.d:Int))from by have:=m.1 (k+t) 5 _ o (by simp only[AP (show ¬k+t<q by omega)];rfl);rw[M.out,Ce]at this;exact this);have x6:=(show L.cell? ⟨g,k*8+t*8+6,none⟩=some (.string x.out)from by have:=m.1 (k+t) 6 _ o (by simp only[AP (show ¬k+t<q by omega)];rfl);rw[M.out,Ce]at this;exact this);have x7:=(show L.cell? ⟨g,k*8+t*8+7,none⟩=some (.bool x.cp)from by have:=m.1 (k+t) 7 _ o (by simp only[AP (show ¬k+t<q by omega)];rfl);rw[M.out,Ce]at this;exact this);obtain⟨v0,z0⟩:=CZ.1 (m.cellAt Ds (q*8+0) (by omega) (by decide));have f0:=m.2 (q*8+0) (by omega);obtain⟨v1,z1⟩:=CZ.1 (m.cellAt Ds (q*8+1) (by omega) (by decide));have f1:=m.2 (q*8+1) (by omega);obtain⟨v2,z2⟩:=CZ.1 (m.cellAt Ds (q*8+2) (by omega) (by decide));have f2:=m.2 (q*8+2) (by omega);obtain⟨v3,z3⟩:=CZ.1 (m.cellAt Ds (q*8+3) (by omega) (by decide));have f3:=m.2 (q*8+3) (by omega);obtain⟨v4,z4⟩:=CZ.1 (m.cellAt Ds (q*8+4) (by omega) (by decide));have f4:=m.2 (q*8+4) (by omega);obtain⟨v5,z5⟩:=CZ.1 (m.cellAt Ds (q*8+5) (by omega) (by decide));have f5:=m.2 (q*8+5) (by omega);obtain⟨v6,z6⟩:=CZ.1 (m.cellAt Ds (q*8+6) (by omega) (by decide));have f6:=m.2 (q*8+6) (by omega);obtain⟨v7,z7⟩:=CZ.1 (m.cellAt Ds (q*8+7) (by omega) (by decide));have f7:=m.2 (q*8+7) (by omega);simp only[D0]at z0 f0;have HP:=AB (m.put Ds (by decide) q (by omega) x)
       have P:=AB m;clear Q p S m;have ah:(0:Int)<=(q:Int):=by omega
       have ai:(q:Int)<(n:Int):=by omega
       go_wp2;go_roundw
       case rel=>
        have I:=r.out;rw[AP (fun h=>H.out h.symm)]at I;refine⟨t+1,q+1,by omega,by omega,by go_num,by go_num,by omega,?_,?_,?_,?_⟩
        .rw [<-Dx,I,AJ,<-Hq.out];rfl
        .rw [<-Dx,I]
         refine HP.out.congr fun a ha=>?_
         have hq:=Hq.out;by_cases h1:a=q
         .rw [AU h1,AU (by omega),h1,AC,CT (by omega),<-hq];simp
         .rw [AP h1]
          by_cases h2:a<q
          .rw [AU h2,AU (by omega),AC,AC,Bi (by omega)]
          .rw [AP h2,AP (by omega)]
        .exact fun B K=>Go.Lib.below_setCells g K (Cx x) (q*8) (T.out B K)
        .simpa using z
       case measure=>simp[intOf];omega
     .have e:k+t=n:=by omega
      have ah:(0:Int)<=(q:Int):=by omega
      have ai:(q:Int)<=(n:Int):=by omega
      have a4:(q:Int)<=(c:Int):=by omega
      have a5:¬c=q:=by omega
      have ad:∀ty,(Builtin.clear_ #[30] ty #[.slice (some ⟨g,q*8,none⟩) (n-q) (c-q)]).run Tryz.prog wr=.ok (.tuple #[]) (wr.setCells g (q*8) (Builtin.zeroCells (Value.cells (.agg #[.int .i64 0,.int .i64 0,.int .u64 0,.int .u64 0,.int .u64 0,.int .u64 0,.string ByteArray.empty,.bool false])) (n-q)).toList):=fun ty=>
       O4 wr 30 61 ty (.agg #[.int .i64 0,.int .i64 0,.int .u64 0,.int .u64 0,.int .u64 0,.int .u64 0,.string ByteArray.empty,.bool false]) 8 Tryz.underlying30 Tryz.zeroValue61 rfl (by decide) (by intro v hv;simp[Value.cells]at hv;rcases hv with rfl|rfl|rfl|rfl|rfl|rfl|rfl|rfl<;>rfl) g (q*8) (n-q) (c-q) (by omega)
        (fun j hj=>F.cellAt Ds _ (by rw[Fo]at hj;omega) (by decide)) (fun j hj=>F.2 _ (by rw[Fo]at hj;omega))
      generalize (Builtin.zeroCells (Value.cells (.agg #[.int .i64 0,.int .i64 0,.int .u64 0,.int .u64 0,.int .u64 0,.int .u64 0,.string ByteArray.empty,.bool false])) (n-q)).toList=Z at ad;have HA:=F.ahead Ds q Z;rw[Nat.min_eq_left (show q<=n by omega)]at HA;have e2:DX (l.take (k+t))=rl:=by rw[e,<-ac.out,<-J.out,CR]
      rw[e2]at HA hq;have aj:=AB (HA.congr (M':=fun a=>rl.getD a Cq) fun a ha=>by rw[AU ha]);have E:=AB (show ∀B,B<=g->Below B w (wr.setCells g (q*8) Z)from fun B K=>Go.Lib.below_setCells g K Z (q*8) (R B K));clear HA F R e2;subst hq;go_wp2;go_ret;exact⟨rfl,aj.out,E.out⟩
   .have N:decide (x=y)=false:=DB s
    rw[N]at S;clear N;have H:=AB s;clear s;go_wp2;refine Au (by kernel_rfl) (by kernel_rfl) ?_
    repeat (go_big_quiet_step (fail))
    refine Ah ?_;intro w5 O;have p:=Bu O;have m:=C.out.below p D;have T:∀B,B<=g->Below B w w5:=fun B K=>(E.out B K).trans (p.mono (by omega))
    have z:g<w5.heap.size:=Aj D p.size;clear V y0;clear X y1;clear Y y2;clear x3 y3;clear x4 y4;clear x5 y5;clear x6 y6;clear x7 y7;clear O p S;have P:=AB m;have L6:=AB T;clear m T;go_wp2;go_roundw
    case rel=>refine⟨k+1,by omega,by omega,by go_num,P.out,L6.out,z,?_⟩;have I:=r.out;rw[AP (fun h=>H.out h.symm),Ho.out]at I;rw[I,<-M.out];have hl:=J.out;rw[AC,AG (by omega),Bq (by omega)];rfl
    case measure=>simp[intOf];omega
  .have e:k=n:=by omega
   subst e;have I:rl=l:=by have h1:=ac.out;rw[<-J.out,CR]at ho;rw[<-h1,ho]
   have C:=AB F;have E:=AB R;have E1:=AB I;clear F R ho I;go_wp2;go_ret;rw[E1.out,J.out];exact⟨rfl,C.out,E.out⟩
end
section
open Go.RowKit Go.Sort
theorem Fp (l:List Tp):(Eo l).length=l.length:=EC _
theorem Mx (l:List Ar):(Jz l).length=l.length:=EC _
def KT (B:Nat) (A:Option Addr) (n:Nat):Prop:=0<n->∀ad,A=some ad->B<=ad.block
theorem KT.less {B B' n:Nat} {A:Option Addr} (h:KT B A n) (a:B'<=B):KT B' A n:=fun b c e=>AK a (h b c e)
theorem Reads.fresh {w w':World} {B B0 size n:Nat} {A:Option Addr} {xs:List Value} (h:Reads w B size A n xs) (d:KT B0 A n) (f:∀p:Addr,B0<=p.block->p.block<B->w'.cell? p=w.cell? p):Reads w' B size A n xs:=⟨h.1,fun a=>by obtain⟨b,e,c,g⟩:=h.2 a;exact⟨b,e,c,fun j u i=>(f _ (by rw[Ic];exact d a b e) (by rw[Ic];exact c)).trans (g j u i)⟩⟩
theorem Reads.freshSet {w:World} {B B0 size n:Nat} {A:Option Addr} {xs:List Value} (h:Reads w B size A n xs) (a:KT B0 A n) {p:Addr} (b:p.block<B0) (u:Value):Reads (w.setCell p u) B size A n xs:=h.fresh a fun q c _=>Ev w p q u (fun e=>by subst e;omega)
def Y7 (l:List Tp) (w:World) (e:Ending) (w':World):Prop:=∃A c,e=.returned (.slice A l.length c)/\Reads w' w'.heap.size 2 A l.length (B_ CL l)/\l.length<=c/\c<=maxLen/\KT w.heap.size A l.length/\Below w.heap.size w w'
def X1J (l:List Ar) (w:World) (e:Ending) (w':World):Prop:=∃A c,e=.returned (.slice A l.length c)/\Reads w' w'.heap.size 8 A l.length (B_ Cx l)/\l.length<=c/\c<=maxLen/\KT w.heap.size A l.length/\Below w.heap.size w w'
theorem eg_T:∀args w,(callFunc 51 args).run Tryz.prog w=.ok (.enter 51 args) w:=FY Tryz.func51 (by kernel_rfl) rfl
theorem QK (A:Option Addr) (n c B:Nat) (l:List Tp) (w:World) (f:Reads w B 2 A n (B_ CL l)) (v:B<=w.heap.size) (F:n<=1000000) :Calls Tryz.prog 62 #[.slice A n c] w fun e w'=>∃v',e=.returned v'/\w'.ownsRow w.heap.size 54 2 v' n (B_ CL l)/\Below w.heap.size w w':=by
 obtain⟨i0,hi,g,i,j⟩:=BK G0;have m:=f.1;have h1:∀u∈B_ CL l,u.oneCell'=true:=fun u o=>by unfold B_ at o;rw[Bz]at o;obtain⟨x,_,y⟩:=o;exact GH x u y
 have z:∀(w:World) (a:Option Addr) (n c p q:Nat),(binOp .eql 29 (.slice a n c) (.slice none p q)).run Tryz.prog w=.ok (.bool a.isNone) w:=fun w a n c p q=>Lib.run_eql_slice_nil w _ _ a n c p q Tryz.underlying29
 generalize B_ CL l=news at *;rcases A with _|s
 .have h0:n=0:=by
    rcases B7 n with h0|h0
    .exact h0
    .obtain ⟨s,h,_⟩:=f.2 h0;cases h
  subst h0;have r:news=[]:=BD (by simpa using m);subst r;go_enter Tryz.func62,Tryz.ntmps62;go_wp2;go_ret;exact⟨_,rfl,⟨by simp,.inl ⟨rfl,rfl⟩⟩,AH _ _⟩
 .have C:=AB (f.alloc v (.cells #[] 54))
  have D:=AB h1;have G:=AB m;clear f h1 m;go_enter Tryz.func62,Tryz.ntmps62
  go_wp2_with (at_builtin;refine Ba _ rfl _ _ 29 rfl w.heap.size 54 i0 _ 2 24 Tryz.underlying29 hi g i j rfl (by decide) _ _ _ rfl (World.ownsRow_made w #[] 0 (AD _) (AN _) (by simp)) B (some s) n c news rfl C.out D.out (by unfold maxLen;omega) (by omega) (by simp) ?_;intro v' H d b t)
  go_wp2;go_ret;exact⟨v',rfl,by simpa using d,((AH _ w).alloc (AD _) _).grown b (by simp) (by intro k E;have h5:some w.heap.size=some k:=E;have h6:=AL h5;omega)⟩
theorem RL (A:Option Addr) (c:Nat) (w:World):Calls Tryz.prog 81 #[.slice A 0 c] w fun e w'=>e=.returned (.slice A 0 c)/\w=w':=by go_enter Tryz.func81,Tryz.ntmps81;go_wp2;go_ret;exact⟨rfl,rfl⟩
theorem QL (A:Option Addr) (c:Nat) (a:Value) (w:World):Calls Tryz.prog 80 #[.slice A 0 c,a] w fun e w'=>e=.returned (.tuple #[])/\w=w':=(AnyF.slices_SortFunc_none Tryz.sortTip A c a w).mono fun _ _ ⟨b,d⟩=>⟨b,d.symm⟩
theorem Rm (A:Option Addr) (n c B:Nat) (l:List Tp) (w:World) (d:Reads w B 2 A n (B_ CL l)) (K:B<=w.heap.size) (C:n<=1000000) :Calls Tryz.prog 50 #[.slice A n c,.func (.func 51) #[] #[]] w (Y7 (Gf l) w):=by
 have L:=FE Dg (by decide) d;subst L;have k:=QK A l.length c B l w d K C;clear d;rcases B7 l.length with h0|h0
 .have e0:l=[]:=BD h0
  subst e0;have H:Gf []=[]:=by unfold Gf Eo;rw[List.mergeSort_nil];rfl
  rw[H];clear H h0;show Calls Tryz.prog 50 #[.slice A 0 c,.func (.func 51) #[] #[]] w _;replace k:Calls Tryz.prog 62 #[.slice A 0 c] w fun e w'=>∃v',e=.returned v'/\w'.ownsRow w.heap.size 54 2 v' 0 []/\Below w.heap.size w w':=k
  go_enter Tryz.func50,Tryz.ntmps50
  go_wp2_with fail
  refine k.mono ?_;rintro e y ⟨I,rfl,a,f⟩
  obtain⟨o,m,M,D⟩:∃o m,I=.slice o 0 m/\m<=maxLen:=by
   rcases a.2 with⟨h,_⟩|⟨g,cap,N,h,_,_,_,O,_⟩
   .exact ⟨none,0,h,AN _⟩
   .exact ⟨_,cap,h,O⟩
  clear a k;subst M
  go_wp2_with fail
  refine(QL o m _ y).mono ?_;rintro e z ⟨rfl,rfl⟩
  go_wp2_with fail
  refine(RL o m y).mono ?_;rintro e z ⟨rfl,rfl⟩;go_wp2;go_ret;exact⟨o,m,rfl,⟨rfl,fun h=>absurd h (C9 0)⟩,AN _,D,fun h=>absurd h (C9 0),f⟩
 .go_enter Tryz.func50,Tryz.ntmps50
  go_wp2_with fail
  refine k.mono ?_;rintro e y ⟨I,rfl,a,f⟩;obtain⟨g1,cap,rfl,i,p,b,q,J⟩:=EV.of_own Dg DI a rfl h0;clear a k
  go_wp2_with fail
  refine(MM _ eg_T PP g1 cap l y J p C).mono ?_;rintro e z ⟨rfl,r,s⟩;have t:=s w.heap.size i;have E:g1<z.heap.size:=Aj p (s 0 (by omega)).size;have j:=N0 g1 cap (Eo l) z r E (by rw[Fp];exact b) q (by rw[Fp];exact C);rw[Fp]at j;have u:=Jk (Eo l) (Eo l).length;rw[CR,Fp]at u;clear J r;have F:=AB j;clear j
  go_wp2_with fail
  refine F.out.mono ?_;rintro e Q ⟨rfl,G,v⟩;go_wp2;go_ret;have x:=v w.heap.size i;have P:=(v 0 (by omega)).size;exact⟨some ⟨g1,0,none⟩,cap,rfl,G.reads Dg (by decide) DI (AD _) (by omega),AK u b,q,fun _ R e=>by have:=AL e;subst this;exact i,(f.trans t).trans x⟩
theorem eg_A:∀args w,(callFunc 53 args).run Tryz.prog w=.ok (.enter 53 args) w:=FY Tryz.func53 (by kernel_rfl) rfl
theorem VQ (A:Option Addr) (n c B:Nat) (l:List Ar) (w:World) (f:Reads w B 8 A n (B_ Cx l)) (v:B<=w.heap.size) (F:n<=1000000) :Calls Tryz.prog 85 #[.slice A n c] w fun e w'=>∃v',e=.returned v'/\w'.ownsRow w.heap.size 61 8 v' n (B_ Cx l)/\Below w.heap.size w w':=by
 obtain⟨i0,hi,g,i,j⟩:=BK Ig;have m:=f.1;have h1:∀u∈B_ Cx l,u.oneCell'=true:=fun u o=>by unfold B_ at o;rw[Bz]at o;obtain⟨x,_,y⟩:=o;exact ID x u y
 have z:∀(w:World) (a:Option Addr) (n c p q:Nat),(binOp .eql 30 (.slice a n c) (.slice none p q)).run Tryz.prog w=.ok (.bool a.isNone) w:=fun w a n c p q=>Lib.run_eql_slice_nil w _ _ a n c p q Tryz.underlying30
 generalize B_ Cx l=news at *;rcases A with _|s
 .have h0:n=0:=by
    rcases B7 n with h0|h0
    .exact h0
    .obtain ⟨s,h,_⟩:=f.2 h0;cases h
  subst h0;have r:news=[]:=BD (by simpa using m);subst r;go_enter Tryz.func85,Tryz.ntmps85;go_wp2;go_ret;exact⟨_,rfl,⟨by simp,.inl ⟨rfl,rfl⟩⟩,AH _ _⟩
 .have C:=AB (f.alloc v (.cells #[] 61))
  have D:=AB h1;have G:=AB m;clear f h1 m;go_enter Tryz.func85,Tryz.ntmps85
  go_wp2_with (at_builtin;refine Ba _ rfl _ _ 30 rfl w.heap.size 61 i0 _ 8 72 Tryz.underlying30 hi g i j rfl (by decide) _ _ _ rfl (World.ownsRow_made w #[] 0 (AD _) (AN _) (by simp)) B (some s) n c news rfl C.out D.out (by unfold maxLen;omega) (by omega) (by simp) ?_;intro v' H d b t)
  go_wp2;go_ret;exact⟨v',rfl,by simpa using d,((AH _ w).alloc (AD _) _).grown b (by simp) (by intro k E;have h5:some w.heap.size=some k:=E;have h6:=AL h5;omega)⟩
theorem RM (A:Option Addr) (c:Nat) (w:World):Calls Tryz.prog 87 #[.slice A 0 c] w fun e w'=>e=.returned (.slice A 0 c)/\w=w':=by go_enter Tryz.func87,Tryz.ntmps87;go_wp2;go_ret;exact⟨rfl,rfl⟩
theorem VR (A:Option Addr) (c:Nat) (a:Value) (w:World):Calls Tryz.prog 86 #[.slice A 0 c,a] w fun e w'=>e=.returned (.tuple #[])/\w=w':=(AnyF.slices_SortFunc_none Tryz.sortArc A c a w).mono fun _ _ ⟨b,d⟩=>⟨b,d.symm⟩
theorem XU (A:Option Addr) (n c B:Nat) (l:List Ar) (w:World) (d:Reads w B 8 A n (B_ Cx l)) (K:B<=w.heap.size) (C:n<=1000000) :Calls Tryz.prog 52 #[.slice A n c,.func (.func 53) #[] #[]] w (X1J (Ng l) w):=by
 have L:=FE Ds (by decide) d;subst L;have k:=VQ A l.length c B l w d K C;clear d;rcases B7 l.length with h0|h0
 .have e0:l=[]:=BD h0
  subst e0;have H:Ng []=[]:=by unfold Ng Jz;rw[List.mergeSort_nil];rfl
  rw[H];clear H h0;show Calls Tryz.prog 52 #[.slice A 0 c,.func (.func 53) #[] #[]] w _;replace k:Calls Tryz.prog 85 #[.slice A 0 c] w fun e w'=>∃v',e=.returned v'/\w'.ownsRow w.heap.size 61 8 v' 0 []/\Below w.heap.size w w':=k
  go_enter Tryz.func52,Tryz.ntmps52
  go_wp2_with fail
  refine k.mono ?_;rintro e y ⟨I,rfl,a,f⟩
  obtain⟨o,m,M,D⟩:∃o m,I=.slice o 0 m/\m<=maxLen:=by
   rcases a.2 with⟨h,_⟩|⟨g,cap,N,h,_,_,_,O,_⟩
   .exact ⟨none,0,h,AN _⟩
   .exact ⟨_,cap,h,O⟩
  clear a k;subst M
  go_wp2_with fail
  refine(VR o m _ y).mono ?_;rintro e z ⟨rfl,rfl⟩
  go_wp2_with fail
  refine(RM o m y).mono ?_;rintro e z ⟨rfl,rfl⟩;go_wp2;go_ret;exact⟨o,m,rfl,⟨rfl,fun h=>absurd h (C9 0)⟩,AN _,D,fun h=>absurd h (C9 0),f⟩
 .go_enter Tryz.func52,Tryz.ntmps52
  go_wp2_with fail
  refine k.mono ?_;rintro e y ⟨I,rfl,a,f⟩;obtain⟨g1,cap,rfl,i,p,b,q,J⟩:=EV.of_own Ds Cq a rfl h0;clear a k
  go_wp2_with fail
  refine(T0 _ eg_A PQ g1 cap l y J p C).mono ?_;rintro e z ⟨rfl,r,s⟩;have t:=s w.heap.size i;have E:g1<z.heap.size:=Aj p (s 0 (by omega)).size;have j:=Su g1 cap (Jz l) z r E (by rw[Mx];exact b) q (by rw[Mx];exact C);rw[Mx]at j;have u:=Jk (Jz l) (Jz l).length;rw[CR,Mx]at u;clear J r;have F:=AB j;clear j
  go_wp2_with fail
  refine F.out.mono ?_;rintro e Q ⟨rfl,G,v⟩;go_wp2;go_ret;have x:=v w.heap.size i;have P:=(v 0 (by omega)).size;exact⟨some ⟨g1,0,none⟩,cap,rfl,G.reads Ds (by decide) Cq (AD _) (by omega),AK u b,q,fun _ R e=>by have:=AL e;subst this;exact i,(f.trans t).trans x⟩
end
section
open Go.RowKit Go.Sort
def fs0:Fs:=⟨0,[],[],[]⟩
def G4 (t:Fs):Fs:=⟨t.n,Gf t.starts,Gf t.ends,Ng t.arcs⟩
def MP (B:Nat) (v:Value):Prop:=∃(N:Int) (A1:Option Addr) (n1 c1:Nat) (A2:Option Addr) (n2 c2:Nat) (A3:Option Addr) (n3 c3:Nat),v=.agg #[.int .i64 N,.slice A1 n1 c1,.slice A2 n2 c2,.slice A3 n3 c3]/\KT B A1 n1/\KT B A2 n2/\KT B A3 n3
theorem MP.less {B B':Nat} {v:Value} (h:MP B v) (a:B'<=B):MP B' v:=by obtain⟨N,b,c,d,e,f,g,i,j,k,rfl,f1,f2,f3⟩:=h;exact⟨N,b,c,d,e,f,g,i,j,k,rfl,f1.less a,f2.less a,f3.less a⟩
theorem EK.fresh {w w':World} {B B0:Nat} {t:Fs} {v:Value} (h:EK w B t v) (d:MP B0 v) (b:∀p:Addr,B0<=p.block->p.block<B->w'.cell? p=w.cell? p):EK w' B t v:=by obtain⟨e,f,g,i,j,k,c,h1,h2,h3,h4,h5,h6,h7,h8,l,m,n,o,q,r⟩:=h;obtain⟨N,s,C,u,x,D,y,z,E,A,a,f1,f2,f3⟩:=d;rw[c]at a;simp only[Value.agg.injEq,Array.mk.injEq,List.cons.injEq,Value.slice.injEq,and_true]at a;obtain⟨_,⟨rfl,rfl,_⟩,⟨rfl,rfl,_⟩,rfl,rfl,_⟩:=a;exact⟨e,f,g,i,j,k,c,h1,h2,h3,h4,h5,h6,h7,h8,l.fresh f1 b,m,n.fresh f2 b,o,q.fresh f3 b,r⟩
theorem EK.freshSet {w:World} {B B0:Nat} {t:Fs} {v:Value} (h:EK w B t v) (a:MP B0 v) {p:Addr} (b:p.block<B0) (u:Value):EK (w.setCell p u) B t v:=h.fresh a fun q c _=>Ev w p q u (fun e=>by subst e;omega)
def GF (t:Fs) (r:Int) (w:World) (e:Ending) (w':World):Prop:=∃v,e=.returned (.tuple #[v,.int .i64 r])/\EK w' w'.heap.size t v/\MP w.heap.size v/\Below w.heap.size w w'
theorem Kn (B:Nat):MP B (.agg #[.int .i64 0,.slice none 0 0,.slice none 0 0,.slice none 0 0]):=⟨_,none,0,0,none,0,0,none,0,0,rfl,fun h=>absurd h (C9 0),fun h=>absurd h (C9 0),fun h=>absurd h (C9 0)⟩
theorem Mz (w:World) (B:Nat):EK w B fs0 (.agg #[.int .i64 0,.slice none 0 0,.slice none 0 0,.slice none 0 0]):=⟨none,0,none,0,none,0,rfl,AD _,AD _,AD _,AN _,AN _,AN _,by decide,by decide,⟨rfl,fun h=>absurd h (C9 0)⟩,fun _ h=>(BP h).elim,⟨rfl,fun h=>absurd h (C9 0)⟩,fun _ h=>(BP h).elim,⟨rfl,fun h=>absurd h (C9 0)⟩,fun _ h=>(BP h).elim⟩
theorem Dn {B:Nat} {w w':World} (h:Below B w w') {g:Nat} (e:B<=g) (a b c d:Value):Below B w ((((w'.setCell ⟨g,0,none⟩ a).setCell ⟨g,1,none⟩ b).setCell ⟨g,2,none⟩ c).setCell ⟨g,3,none⟩ d):=(((h.setCell (p:=⟨g,0,none⟩) e _).setCell (p:=⟨g,1,none⟩) e _).setCell (p:=⟨g,2,none⟩) e _).setCell (p:=⟨g,3,none⟩) e _
theorem Reads.freshSet4 {B B0 size n:Nat} {A:Option Addr} {xs:List Value} {w:World} (h:Reads w B size A n xs) (e:KT B0 A n) {g:Nat} (f:g<B0) (a b c d:Value):Reads ((((w.setCell ⟨g,0,none⟩ a).setCell ⟨g,1,none⟩ b).setCell ⟨g,2,none⟩ c).setCell ⟨g,3,none⟩ d) B size A n xs:=(((h.freshSet e (p:=⟨g,0,none⟩) f _).freshSet e (p:=⟨g,1,none⟩) f _).freshSet e (p:=⟨g,2,none⟩) f _).freshSet e (p:=⟨g,3,none⟩) f _
theorem XW {t:Fs} (h:Dq t=true):t.starts.length<=1024/\t.ends.length<=1024/\t.arcs.length<=16384:=by unfold Dq Gz at h;simp only[AW,BB]at h;exact⟨h.1.1.2.1,h.1.2.1,h.1.1.1.2⟩
theorem KZ (t:Fs) (v:Value) (B:Nat) (w:World) (HS:EK w B t v) (hB:B<=w.heap.size) :Calls Tryz.prog 21 #[v] w (GF (if Dq t=true then G4 t else fs0) (O1 (Dq t)) w):=by
 have L:=HS.more hB;clear HS;have a:∀W,Below w.heap.size w W->Calls Tryz.prog 20 #[v] W (C7 (.int .i64 (O1 (Dq t))) W):=fun W g=>GX t v w.heap.size W (L.below g) g.size
 obtain⟨k,l,m,o,p,q,rfl,h1,h2,h3,h4,h5,h6,h7,h8,T,U,V,X,Y,Z⟩:=L;rcases M:Dq t with _|_
 .rw [M]at a
  rw[AP (by decide)];clear T V Y U X Z M;replace a:∀W,Below w.heap.size w W->Calls Tryz.prog 20 #[.agg #[.int .i64 t.n,.slice k t.starts.length l,.slice m t.ends.length o,.slice p t.arcs.length q]] W (C7 (.int .i64 1) W):=a
  show Calls Tryz.prog 21 _ w (GF fs0 1 w);generalize t.n=N at *;generalize t.starts.length=E at *;generalize t.ends.length=F at *;generalize t.arcs.length=G at *;go_enter Tryz.func21,Tryz.ntmps21
  go_wp2_with fail
  refine(a _ (((AH _ w).alloc (AD _) _).alloc (by simp) _)).mono ?_;rintro e d ⟨rfl,b⟩;have K:=(BL.new (w.alloc (.cells #[.int .i64 N,.slice k E l,.slice m F o,.slice p G q] 32)) 32 #[.int .i64 0,.slice none 0 0,.slice none 0 0,.slice none 0 0]).below b (by simp);rw[Ad]at K;have j:=(((AH _ w).alloc (AD _) (.cells #[.int .i64 N,.slice k E l,.slice m F o,.slice p G q] 32)).alloc (by simp) (.cells #[.int .i64 0,.slice none 0 0,.slice none 0 0,.slice none 0 0] 32)).trans (b.mono (by simp;omega));have k0:=K.cell 0;have k1:=K.cell 1;have k2:=K.cell 2;have k3:=K.cell 3;have f0:=K.frozen 0;have f1:=K.frozen 1;have f2:=K.frozen 2;have f3:=K.frozen 3;clear K;go_wp2;refine AQ (v:=.tuple #[.agg #[.int .i64 0,.slice none 0 0,.slice none 0 0,.slice none 0 0],.int .i64 1]) (by simp[results,Tryz.results21,go_sem,k0,k1,k2,k3]) rfl ⟨_,rfl,Mz _ _,Kn _,Dn j (by omega) _ _ _ _⟩
 .rw [M]at a
  rw[AU rfl];show Calls Tryz.prog 21 _ w (GF (G4 t) 0 w);replace a:∀W,Below w.heap.size w W->Calls Tryz.prog 20 #[.agg #[.int .i64 t.n,.slice k t.starts.length l,.slice m t.ends.length o,.slice p t.arcs.length q]] W (C7 (.int .i64 0) W):=a
  obtain⟨z1,z2,z3⟩:=XW M;have T1:∀W,Below w.heap.size w W->Calls Tryz.prog 50 #[.slice k t.starts.length l,.func (.func 51) #[] #[]] W (Y7 (Gf t.starts) W):=fun W g=>Rm k _ l _ t.starts W (T.below g) g.size (by omega)
  have T2:∀W,Below w.heap.size w W->Calls Tryz.prog 50 #[.slice m t.ends.length o,.func (.func 51) #[] #[]] W (Y7 (Gf t.ends) W):=fun W g=>Rm m _ o _ t.ends W (V.below g) g.size (by omega)
  have T3:∀W,Below w.heap.size w W->Calls Tryz.prog 52 #[.slice p t.arcs.length q,.func (.func 53) #[] #[]] W (X1J (Ng t.arcs) W):=fun W g=>XU p _ q _ t.arcs W (Y.below g) g.size (by omega)
  have aa:=AB (show(∀x∈Gf t.starts,MJ x)/\(∀x∈Gf t.ends,MJ x)/\(∀x∈Ng t.arcs,Th x)from⟨fun x O=>U x ((EY _ _).1 O),fun x O=>X x ((EY _ _).1 O),fun x O=>Z x ((Kl _ _).1 O)⟩);have ab:=AB (show(G4 t).n=t.n/\(G4 t).starts=Gf t.starts/\(G4 t).ends=Gf t.ends/\(G4 t).arcs=Ng t.arcs from⟨rfl,rfl,rfl,rfl⟩);clear T V Y U X Z M;generalize G4 t=st at *;generalize Gf t.starts=l1 at *;generalize Gf t.ends=l2 at *;generalize Ng t.arcs=P at *;generalize t.n=N at *;generalize t.starts.length=E at *;generalize t.ends.length=F at *;generalize t.arcs.length=G at *;go_enter Tryz.func21,Tryz.ntmps21
  go_wp2_with fail
  refine(a _ (((AH _ w).alloc (AD _) _).alloc (by simp) _)).mono ?_;rintro e d ⟨rfl,b⟩;have K:=(BL.new (w.alloc (.cells #[.int .i64 N,.slice k E l,.slice m F o,.slice p G q] 32)) 32 #[.int .i64 0,.slice none 0 0,.slice none 0 0,.slice none 0 0]).below b (by simp);have J:=((BL.new w 32 #[.int .i64 N,.slice k E l,.slice m F o,.slice p G q]).alloc (.cells #[.int .i64 0,.slice none 0 0,.slice none 0 0,.slice none 0 0] 32)).below b (by simp;omega);rw[Ad]at K;have j:=(((AH _ w).alloc (AD _) (.cells #[.int .i64 N,.slice k E l,.slice m F o,.slice p G q] 32)).alloc (by simp) (.cells #[.int .i64 0,.slice none 0 0,.slice none 0 0,.slice none 0 0] 32)).trans (b.mono (by simp;omega));have s:w.heap.size+1<d.heap.size:=by have:=b.size;simp at this;omega
  clear b a;have j0:=AF (J.cell 0);have j1:=AF (J.cell 1);have j2:=AF (J.cell 2);have j3:=AF (J.cell 3);clear J;go_wp2;refine Cd 11 [0,1,2,3,5,6,8,9] [4,7,10] (by kernel_rfl) (by kernel_rfl) rfl (by kernel_rfl) ?_;simp only[CV,A_,BA,Az,BI]
  repeat (go_big_quiet_step (fail))
  refine Ah ?_;clear j0 j1 j2 j3;refine BU rfl (fun Q c=>?_);go_simp;refine(T1 _ j.drew).mono ?_;rintro e w2 ⟨u,d1,rfl,Q1,u1,m1,F1,R⟩;have H:Below d.heap.size d w2:=((AH _ d).drew).trans R;refine c _ _ (A5 H) ?_;clear c Q;refine BU rfl (fun Q c=>?_);go_simp;refine(T2 _ (j.trans (H.mono j.size))).mono ?_;rintro e w3 ⟨y,d2,rfl,Q2,u2,m2,F2,i⟩;have I:Below d.heap.size d w3:=H.trans (i.mono H.size);refine c _ _ (A5 I) ?_;clear c Q;refine BU rfl (fun Q c=>?_);go_simp;refine(T3 _ (j.trans (I.mono j.size))).mono ?_;rintro e w4 ⟨z,d3,rfl,Q3,u3,m3,F3,f⟩;have L4:Below d.heap.size d w4:=I.trans (f.mono I.size);refine c _ _ (A5 L4) ?_;clear c Q;refine Cc ?_;have r:=K.below L4 (by omega);have k0:=r.cell 0;have k1:=r.cell 1;have k2:=r.cell 2;have k3:=r.cell 3;have f0:=r.frozen 0;have f1:=r.frozen 1;have f2:=r.frozen 2;have f3:=r.frozen 3;have M1:=((Q1.below i).below ((f).mono i.size)).more (AK i.size f.size);have M2:=(Q2.below f).more f.size;have A:=F1.less (show d.heap.size<=_ from AD _);have C:=F2.less (show d.heap.size<=_ from H.size);have D:=F3.less (show d.heap.size<=_ from I.size);have L5:=j.trans (L4.mono (AK (AD _) j.size));have FN:=AB (show KT w.heap.size u l1.length/\KT w.heap.size y l2.length/\KT w.heap.size z P.length from⟨A.less (by omega),C.less (by omega),D.less (by omega)⟩);clear K r T1 T2 T3 R i f j H I Q1 Q2 F1 F2 F3;have E1:=(M1.freshSet4 A (show w.heap.size+1<d.heap.size from s) (.int .i64 N) (.slice u l1.length d1) (.slice y l2.length d2) (.slice z P.length d3));have E2:=(M2.freshSet4 C (show w.heap.size+1<d.heap.size from s) (.int .i64 N) (.slice u l1.length d1) (.slice y l2.length d2) (.slice z P.length d3));have E3:=(Q3.freshSet4 D (show w.heap.size+1<d.heap.size from s) (.int .i64 N) (.slice u l1.length d1) (.slice y l2.length d2) (.slice z P.length d3));have ac:=AB E1;have ad:=AB E2;have ae:=AB E3;clear E1 E2 E3 M1 M2 Q3 A C D;go_wp2;refine Be ?_;go_wp2;refine AQ (v:=.tuple #[.agg #[.int .i64 N,.slice u l1.length d1,.slice y l2.length d2,.slice z P.length d3],.int .i64 0]) (by simp[results,Tryz.results21,go_sem,k0,k1,k2,k3]) rfl ⟨_,rfl,?_,⟨_,u,_,d1,y,_,d2,z,_,d3,rfl,FN.out.1,FN.out.2.1,FN.out.2.2⟩,Dn L5 (by omega) _ _ _ _⟩;obtain⟨s1,s2,s3,S⟩:=ab.out;obtain⟨g1,g2,g3⟩:=aa.out;refine⟨u,d1,y,d2,z,d3,by rw[s1,s2,s3,S],by rw[s2];exact u1,by rw[s3];exact u2,by rw[S];exact u3,m1,m2,m3,by rw[s1];exact h7,by rw[s1];exact h8,?_,by rw[s2];exact g1,?_,by rw[s3];exact g2,?_,by rw[S];exact g3⟩
  .rw [s2];simpa using ac.out
  .rw [s3];simpa using ad.out
  .rw [S];simpa using ae.out
end
section
open Go.RowKit Go.Sort
theorem AO {w:World} {base:Nat} {e:TypeId} {size n:Nat} {v:Value} {xs:List Value} (h:w.ownsRow base e size v n xs) {p:Addr} (b:v.ownBlock≠some p.block) (u:Value):(w.setCell p u).ownsRow base e size v n xs:=h.kept (row:=some p.block) ⟨rfl,rfl,rfl,by simp,fun k c a=>Am w p u k (fun e=>a (by rw[e]))⟩ (.inr b)
theorem own_lt {w:World} {base:Nat} {e:TypeId} {size n:Nat} {v:Value} {xs:List Value} (h:w.ownsRow base e size v n xs):∀g,v.ownBlock=some g->base<=g/\g<w.heap.size:=by
 intro g a;rcases h.2 with⟨rfl,_⟩|⟨b,cap,d,rfl,f,c,_⟩
 .cases a
 .have:b=g:=AL a
  subst this;refine⟨f,?_⟩;rcases BF b w.heap.size with h|h
  .exact h
  .rw [Cn h]at c;cases c
theorem BQ {w w':World} {base:Nat} {e:TypeId} {size n:Nat} {v:Value} {xs:List Value} (h:w.ownsRow base e size v n xs) (f:Below w.heap.size w w'):w'.ownsRow base e size v n xs:=by
 refine⟨h.1,?_⟩;rcases h.2 with h0|⟨g,cap,a,i,b,c,rest⟩
 .exact .inl h0
 .have d:g<w.heap.size:=by
    rcases BF g w.heap.size with h|h
    .exact h
    .rw [Cn h]at c;cases c
  exact .inr ⟨g,cap,a,i,b,(f.block g d).trans c,rest⟩
theorem BH {w:World} {base:Nat} {e:TypeId} {size n:Nat} {v:Value} {xs:List Value} (h:w.ownsRow base e size v n xs):∃A c,v=.slice A n c/\n<=c/\c<=maxLen/\(0<n->∃g,A=some ⟨g,0,none⟩/\base<=g/\g<w.heap.size):=by
 rcases h.2 with⟨rfl,rfl⟩|⟨g,cap,b,rfl,d,a,f,i,_⟩
 .exact ⟨none,0,rfl,AD _,AN _,fun h=>absurd h (C9 0)⟩
 .refine ⟨_,cap,rfl,f,i,fun _=>⟨g,rfl,d,?_⟩⟩
  rcases BF g w.heap.size with h|h
  .exact h
  .rw [Cn h]at a;cases a
def Ij (v v':Value):Prop:=∀g,v.ownBlock=some g->v'.ownBlock≠some g
theorem BG {w:World} {base c:Nat} {e k:TypeId} {size d n p:Nat} {v v':Value} {xs i:List Value} (h:w.ownsRow base e size v n xs) (q:w.ownsRow c k d v' p i) (j:e≠k):Ij v v':=by
 intro g l f;rcases h.2 with⟨rfl,_⟩|⟨a,cap,r,rfl,_,s,_⟩
 .cases l
 rcases q.2 with⟨rfl,_⟩|⟨t,m,o,rfl,_,b,_⟩
 .cases f
 have u:a=g:=AL l;have x:t=g:=AL f;subst u;subst x;rw[s]at b;injection b with b
 injection b with _ ht
 exact j ht
theorem Ij.or_none {v v':Value} (h:Ij v v'):v.ownBlock=none\/v.ownBlock≠v'.ownBlock:=by
 rcases a:v.ownBlock with _|g
 .exact .inl rfl
 .right;intro e;exact h g a e.symm
theorem Ij.symm {v v':Value} (h:Ij v v'):Ij v' v:=fun g b a=>h g a b
end
section
open Go.RowKit Go.Sort
abbrev Bf:Value:=.slice none 0 0
theorem Oh {w:World} {base:Nat} {e:TypeId} {L n c:Nat} {xs:List Value} (h:w.ownsRow base e 1 (.slice (some ⟨L,0,none⟩) n c) n xs) (s:Nat) (_hs:s<n) (v:Value) :(w.setCell ⟨L,s,none⟩ v).ownsRow base e 1 (.slice (some ⟨L,0,none⟩) n c) n (xs.set s v):=by
 obtain⟨f,h|⟨g,cap,a,i,j,k,l,m,b,o⟩⟩:=h
 .obtain ⟨h,_⟩:=h;cases h
 .injection i with hv1 _ hv2
  have d:=AL hv1;injection d with d
  subst d hv2;refine⟨by rw[DU];exact f,.inr ⟨L,c,a.setIfInBounds s v,rfl,j,?_,l,m,by simpa using b,?_⟩⟩
  .simp [World.setCell,Array.getElem?_modify,k]
  .rw [<-o,Array.toList_setIfInBounds,List.take_set]
theorem CM {w:World} {base:Nat} {e:TypeId} {L n c:Nat} {xs:List Value} (h:w.ownsRow base e 1 (.slice (some ⟨L,0,none⟩) n c) n xs) (s:Nat) (a:s<n) (d:Value):w.cell? ⟨L,s,none⟩=some (xs.getD s d):=by have b:=h.1;have:=h.cells (g:=L) rfl s (xs.getD s d) (by rw[AC,AG (by omega)];rfl);rw[Gq,C8]at this;exact this
theorem Df {w:World} {base:Nat} {e:TypeId} {L n c:Nat} {xs:List Value} (h:w.ownsRow base e 1 (.slice (some ⟨L,0,none⟩) n c) n xs) (s:Nat):w.frozen? ⟨L,s,none⟩=false:=by
 obtain⟨_,h|⟨g,cap,b,d,_,f,_⟩⟩:=h
 .obtain ⟨h,_⟩:=h;cases h
 .injection d with hv1 _ _
  have a:=AL hv1;injection a with a
  subst a;simp[World.frozen?,f]
structure Grp {α:Type} (enc:α->List Value) (k:Nat) (w:World) (base L n:Nat) (eL e:TypeId) (vs:List Value) (rows:Nat->List α):Prop where
 own:w.ownsRow base eL 1 (.slice (some ⟨L,0,none⟩) n n) n vs
 row:∀s,s<n->w.ownsRow base e k (vs.getD s Bf) (rows s).length (B_ enc (rows s))
 ap:∀s s',s<n->s'<n->s≠s'->Ij (vs.getD s Bf) (vs.getD s' Bf)
section
variable {α:Type} {enc:α->List Value} {k:Nat} {w w':World} {base L n:Nat} {eL e:TypeId} {vs:List Value} {rows:Nat->List α}
theorem Grp.call (h:Grp enc k w base L n eL e vs rows) (a:Below w.heap.size w w'):Grp enc k w' base L n eL e vs rows:=⟨BQ h.own a,fun s b=>BQ (h.row s b) a,h.ap⟩
theorem Grp.kept (h:Grp enc k w base L n eL e vs rows) {row:Option Nat} (a:w.grownBy w' row) (h1:row≠some L) (h2:∀s,s<n->(vs.getD s Bf).ownBlock=none\/(vs.getD s Bf).ownBlock≠row):Grp enc k w' base L n eL e vs rows:=⟨h.own.kept a (.inr fun e=>h1 e.symm),fun s b=>(h.row s b).kept a (h2 s b),h.ap⟩
theorem Grp.set (h:Grp enc k w base L n eL e vs rows) {p:Addr} (h1:p.block≠L) (h2:∀s,s<n->(vs.getD s Bf).ownBlock≠some p.block) (u:Value):Grp enc k (w.setCell p u) base L n eL e vs rows:=⟨AO h.own (fun e=>h1 (AL e).symm) u,fun s a=>AO (h.row s a) (h2 s a) u,h.ap⟩
theorem JF (l:List Value) (s:Nat) (v d:Value) (h:s<l.length):(l.set s v).getD s d=v:=by rw[AC,List.getElem?_set_self h];rfl
theorem Fb (l:List Value) (s t:Nat) (v d:Value) (h:s≠t):(l.set s v).getD t d=l.getD t d:=by rw[AC,AC,List.getElem?_set_ne h]
theorem Grp.put (h:Grp enc k w base L n eL e vs rows) (j:eL≠e) (s:Nat) (p:s<n) {v':Value} (x:α) (r:w.grownBy w' (vs.getD s Bf).ownBlock) (E:w'.ownsRow base e k v' ((rows s).length+1) (B_ enc (rows s)++enc x)) (u:v'.ownBlock=(vs.getD s Bf).ownBlock\/v'.ownBlock=some w.heap.size) :Grp enc k (w'.setCell ⟨L,s,none⟩ v') base L n eL e (vs.set s v') (fun t=>if t=s then rows s++[x]else rows t):=by
 have y:vs.length=n:=by have:=h.own.1;omega
 have q:=h.row s p;have z:=h.own.kept r (BG h.own q j).or_none;have l:w'.ownsRow base e k v' (rows s++[x]).length (B_ enc (rows s++[x])):=by rw[Ej,AJ];exact E
 have A:∀{v:Value} {m:Nat} {B:List Value},w'.ownsRow base e k v m B->v.ownBlock≠some L:=fun {v m B} F=>(BG z F j) L rfl
 refine⟨Oh z s p v',fun t i=>?_,fun t o i c d=>?_⟩
 .by_cases f:t=s
  .subst f;rw[JF _ _ _ _ (by omega),AU rfl];exact AO l (A l) _
  .rw [Fb _ _ _ _ _ (CF f),AP f];have C:=(h.row t i).kept r (h.ap t s i p f).or_none;exact AO C (A C) _
 .by_cases f:t=s
  .subst f
   rw[JF _ _ _ _ (by omega),Fb _ _ _ _ _ d];intro g a b;rcases u with h1|h1
   .exact h.ap t o i c d g (by rw[<-h1];exact a) b
   .rw [h1]at a;have:=AL a;have:=(own_lt (h.row o c) g b).2;omega
  .by_cases D:o=s
   .subst D
    rw[JF _ _ _ _ (by omega),Fb _ _ _ _ _ (CF f)];intro g a b;rcases u with h1|h1
    .exact h.ap t o i c d g a (by rw[<-h1];exact b)
    .rw [h1]at b;have:=AL b;have:=(own_lt (h.row t i) g a).2;omega
   .rw [Fb _ _ _ _ _ (CF f),Fb _ _ _ _ _ (CF D)];exact h.ap t o i c d
end
end
end Go.Proofs.YtcondkihpmmnnaaGreatDoor
