/- Lemmas, part 9 of 50. No condition. -/
import Derived.Lib.ItoaNum
import Derived.Test.YtcondkihpmmnnaaGreatDoorTwin08
set_option maxRecDepth 100000
set_option maxHeartbeats 16000000
namespace Go.Proofs.YtcondkihpmmnnaaGreatDoor
section
open Go.Lib
def L_ (x y:Tp):Int:=if x.st<y.st then -1 else if y.st<x.st then 1 else compareBytes x.out.data.toList y.out.data.toList
def Eo (l:List Tp):List Tp:=l.mergeSort fun x y=>!decide (L_ y x<0)
def DX {α:Type} [DecidableEq α]:List α->List α
 | []=>[]
 | [x]=>[x]
 | x::y::l=>if x=y then DX (y::l)else x::DX (y::l)
theorem Mw {α:Type} [DecidableEq α] (z:α):∀l:List α,z∈DX l↔z∈l
 | []=>Iff.rfl
 | [x]=>Iff.rfl
 | x::y::l=>by
  unfold DX;split
  .rename_i h;subst h;rw[Mw z (x::l)];simp
  .rw [Bh,Mw z (y::l),Bh (a:=z) (b:=x)]
theorem Gn (z:Tp) (l:List Tp):z∈Eo l↔z∈l:=by unfold Eo;exact List.mem_mergeSort
def Gf (l:List Tp):List Tp:=DX (Eo l)
theorem EY (z:Tp) (l:List Tp):z∈Gf l↔z∈l:=by unfold Gf;rw[Mw,Gn]
def It:List Tp->Bool
 | x::y::l=>x.st==y.st || It (y::l)
 | _=>false
def EZ:List ByteArray->ByteArray
 | []=>ByteArray.empty
 | s::l=>Jp s l
def Ie (n:Nat) (x:Tp):Tp:=⟨x.st,x.out.extract n x.out.size⟩
def EU (l:List Tp):Except Int (ByteArray×List Tp):=
 let r:=Gf l
 let f:=EZ (r.map Tp.out)
 if It r=true then .error 12
 else if 4096<f.size then .error 2
 else if r.any (fun x=>decide (4096<(Ie f.size x).out.size))=true then .error 2
 else .ok (f,r.map (Ie f.size))
def JK (ends:List Tp) (l:List Tp):Except Int (Bool×ByteArray):=
 match l.flatMap fun x=>(ends.filter fun z=>z.st==x.st).map fun z=>x.out++z.out with
 | []=>.ok (false,ByteArray.empty)
 | s::r=>if r.all (fun t=>t==s)=true then(if 4096<s.size then .error 2 else .ok (true,s))else .error 12
def Ar.putB (x:Ar) (b:Nat):ByteArray:=x.out++if x.cp then⟨#[b.toUInt8]⟩else ByteArray.empty
def Db (arcs:List Ar) (l:List Tp) (b:Nat):List Tp:=l.flatMap fun x=>(arcs.filter fun a=>a.fr==x.st && a.set.m b).map fun a=>⟨a.to,x.out++a.putB b⟩
structure Mk where
 rows:List (List Tp)
 next:List (List Int)
 outs:List (List ByteArray)
 ends:List Bool
 tails:List ByteArray
def FO (most:Nat) (rows:List (List Tp)) (l:List Tp):Except Int (Nat×List (List Tp)):=
 match rows.idxOf? l with
 | some i=>.ok (i,rows)
 | none=>if most<=rows.length then .error 2 else .ok (rows.length,rows++[l])
def MH (arcs:List Ar) (most:Nat) (l:List Tp) (b:Nat) (acc:List (List Tp)×List Int×List ByteArray):Except Int (List (List Tp)×List Int×List ByteArray):=
 match Db arcs l b with
 | []=>.ok (acc.1,acc.2.1++[-1],acc.2.2++[ByteArray.empty])
 | x::r=>
  match EU (x::r)with
  | .error e=>.error e
  | .ok (o,r')=>
   match FO most acc.1 r' with
   | .error e=>.error e
   | .ok (i,rows)=>.ok (rows,acc.2.1++[(i:Int)],acc.2.2++[o])
def Et (arcs:List Ar) (most:Nat) (l:List Tp) (rows:List (List Tp)):Nat->Except Int (List (List Tp)×List Int×List ByteArray)
 | 0=>.ok (rows,[],[])
 | k+1=>
  match Et arcs most l rows k with
  | .error e=>.error e
  | .ok acc=>MH arcs most l k acc
def Tg (t:Fs) (most:Nat) (m:Mk) (s:Nat):Except Int Mk:=
 match JK t.ends (m.rows.getD s [])with
 | .error e=>.error e
 | .ok (e,o)=>
  match Et t.arcs most (m.rows.getD s []) m.rows 256 with
  | .error e=>.error e
  | .ok (rows,next,outs)=>.ok ⟨rows,m.next++[next],m.outs++[outs],m.ends++[e],m.tails++[o]⟩
def IS (t:Fs) (most:Nat):Nat->Nat->Mk->Except Int Mk
 | 0,_,m=>.ok m
 | k+1,s,m=>
  if s<m.rows.length then
   match Tg t most m s with
   | .error e=>.error e
   | .ok m'=>IS t most k (s+1) m'
  else .ok m
def MI:SeqM:=⟨ByteArray.empty,[],[],[],[]⟩
def IC (t:Fs) (most:Nat):Except Int SeqM:=
 match t.starts with
 | []=>.ok MI
 | _::_=>
  match EU t.starts with
  | .error e=>.error e
  | .ok (front,l)=>
   match FO most [] l with
   | .error e=>.error e
   | .ok (_,rows)=>
    match IS t most most 0 ⟨rows,[],[],[],[]⟩with
    | .error e=>.error e
    | .ok m=>.ok ⟨front,m.next,m.outs,m.ends,m.tails⟩
end
section
open Go.Lib
abbrev bl (s:ByteArray):List UInt8:=s.data.toList
theorem DW (a b:ByteArray):bl (a++b)=bl a++bl b:=by simp[bl]
theorem D_ {a b:ByteArray} (h:bl a=bl b):a=b:=FU (Array.toList_inj.1 h)
theorem Nf (a:ByteArray) (n:Nat):bl (a.extract n a.size)=(bl a).drop n:=by
 simp only[bl,ByteArray.data_extract,Array.toList_extract,List.extract_eq_take_drop];have:(a.data.toList.drop n).length=a.size-n:=by rw[List.length_drop];rfl
 rw[<-this,CR]
theorem Yt (a:ByteArray) (n:Nat):bl (a.extract 0 n)=(bl a).take n:=by simp[bl,ByteArray.data_extract,Array.toList_extract,List.extract_eq_take_drop]
theorem CK (a:ByteArray):(bl a).length=a.size:=rfl
theorem Yu:bl ByteArray.empty=[]:=rfl
def IK (t:Fs) (l:List Tp) (w o:List UInt8):Prop:=∃x∈l,∃z∈t.ends,∃o',Way t.arcs x.st w o' z.st/\o=bl x.out++o'++bl z.out
theorem VI (t:Fs) (w o:List UInt8):RV t w o↔IK t t.starts w o:=Iff.rfl
def KH (t:Fs):Prop:=∃w o1 o2,o1≠o2/\RV t w o1/\RV t w o2
def Reached (t:Fs) (l:List Tp):Prop:=∃u c,∀x∈l,∃x0∈t.starts,∃o,Way t.arcs x0.st u o x.st/\bl x0.out++o=c++bl x.out
def Iz (t:Fs) (l:List Tp):Prop:=∀x∈l,F6 t.n x.st
theorem Oy:∀(l:List ByteArray) (s:ByteArray),(bl (Jp s l)) <+: bl s/\∀x∈l,bl (Jp s l) <+: bl x
 | [],s=>⟨CW _,fun x c=>by cases c⟩
 | t::l,s=>by
  obtain⟨h1,h2⟩:=Oy l (s.extract 0 (E6 (bl s) (bl t)));have e:bl (s.extract 0 (E6 (bl s) (bl t)))=(bl s).take (E6 (bl s) (bl t)):=Yt _ _
  have d:(bl s).take (E6 (bl s) (bl t)) <+: bl t:=by
   have:(bl s).take (E6 (bl s) (bl t))=(bl t).take (E6 (bl s) (bl t)):=by
    clear h1 h2 e;generalize bl s=a;generalize bl t=b
    induction a generalizing b with
    | nil=>simp[E6]
    | cons x a ih=>
     cases b with
     | nil=>simp[E6]
     | cons y b=>
      unfold E6;split
      .rename_i h;subst h;simp[ih b]
      .simp
   rw[this];exact List.take_prefix _ _
  refine⟨h1.trans (by rw[e];exact List.take_prefix _ _),fun x c=>?_⟩;rcases Bh.1 c with rfl|c
  .exact h1.trans (by rw[e];exact d)
  .exact h2 x c
theorem Tl (l:List ByteArray):∀x∈l,bl (EZ l) <+: bl x:=by
 cases l with
 | nil=>intro x a;cases a
 | cons s l=>
  intro x a;obtain⟨h1,h2⟩:=Oy l s;rcases Bh.1 a with rfl|a
  .exact h1
  .exact h2 x a
theorem Yv (x:Tp) (f:ByteArray) (h:bl f <+: bl x.out):bl x.out=bl f++bl (Ie f.size x).out:=by obtain⟨r,a⟩:=h;unfold Ie;rw[Nf,<-a,List.drop_append_of_le_length (by rw[CK];exact AD _)];simp[Gb]
def VJ {α:Type}:List α->Prop
 | x::y::l=>x≠y/\VJ (y::l)
 | _=>True
theorem P1 {α:Type} [DecidableEq α]:∀(x:α) (l:List α),∃r,DX (x::l)=x::r
 | x,[]=>⟨[],rfl⟩
 | x,y::l=>by
  unfold DX;split
  .rename_i h;subst h;exact P1 x l
  .exact ⟨_,rfl⟩
theorem Oz {α:Type} [DecidableEq α]:∀l:List α,VJ (DX l)
 | []=>trivial
 | [x]=>trivial
 | x::y::l=>by
  have a:=Oz (y::l);unfold DX;split
  .exact a
  .rename_i h;obtain⟨r,b⟩:=P1 y l;rw[b]at a ⊢;exact⟨h,a⟩
theorem Rc:∀l:List Tp,VJ l->It l=true->∃x∈l,∃y∈l,x.st=y.st/\x.out≠y.out
 | [],_,h=>by cases h
 | [x],_,h=>by cases h
 | x::y::l,ha,h=>by
  unfold It at h;rw[DJ]at h;rcases h with h|h
  .have g:x.st=y.st:=by simpa using h
   refine⟨x,by simp,y,by simp,g,fun e=>ha.1 ?_⟩;cases x;cases y;simp_all
  .obtain ⟨a,c,b,d,f⟩:=Rc (y::l) ha.2 h;exact⟨a,by simp[c],b,by simp[d],f⟩
theorem Hh {l l':List Tp} {f:ByteArray} (h:EU l=.ok (f,l')) :f.size<=4096/\(∀y∈l',y.out.size<=4096)/\(∀y,y∈l'↔∃x∈l,y=Ie f.size x)/\(∀x∈l,bl x.out=bl f++bl (Ie f.size x).out):=by
 unfold EU at h;simp only at h;split at h
 .cases h
 split at h
 .cases h
 split at h
 .cases h
 rename_i h1 h2 h3;injection h with h
 injection h with hf hl
 subst hf hl;refine⟨by omega,fun y d=>?_,fun y=>?_,fun x a=>?_⟩
 .obtain ⟨x,a,rfl⟩:=Bd.1 d
  rw[List.any_eq_true]at h3;rcases BF 4096 (Ie (EZ ((Gf l).map Tp.out)).size x).out.size with b|c
  .exact absurd ⟨x,a,by simpa using b⟩ h3
  .exact c
 .rw [Bd]
  constructor
  .rintro ⟨x,a,rfl⟩;exact⟨x,(EY _ _).1 a,rfl⟩
  .rintro ⟨x,a,rfl⟩;exact⟨x,(EY _ _).2 a,rfl⟩
 .exact Yv x _ (Tl _ _ (Bd.2 ⟨x,(EY _ _).2 a,rfl⟩))
theorem P2 {l:List Tp} {e:Int} (h:EU l=.error e):e=2\/(e=12/\∃x∈l,∃y∈l,x.st=y.st/\x.out≠y.out):=by
 unfold EU at h;simp only at h;split at h
 .rename_i h1
  injection h with h
  obtain⟨x,b,y,c,a⟩:=Rc _ (Oz _) h1;exact .inr ⟨h.symm,x,(EY _ _).1 b,y,(EY _ _).1 c,a⟩
 split at h
 .injection h with h;exact .inl h.symm
 split at h
 .injection h with h;exact .inl h.symm
 .cases h
theorem Nw {t:Fs} {l l':List Tp} {f:ByteArray} (h:EU l=.ok (f,l')) (w o:List UInt8):IK t l w o↔∃a,IK t l' w a/\o=bl f++a:=by
 obtain⟨_,_,d,e⟩:=Hh h;constructor
 .rintro ⟨x,b,z,c,a,k,rfl⟩;refine⟨bl (Ie f.size x).out++a++bl z.out,⟨Ie f.size x,(d _).2 ⟨x,b,rfl⟩,z,c,a,k,rfl⟩,?_⟩;rw[e x b];simp
 .rintro ⟨a,⟨y,g,z,c,i,k,rfl⟩,rfl⟩;obtain⟨x,b,rfl⟩:=(d y).1 g;refine⟨x,b,z,c,i,k,?_⟩;rw[e x b];simp
theorem Ar.putB_bl (x:Ar) (b:UInt8):bl (x.putB b.toNat)=x.put b:=by unfold Ar.putB Ar.put;rw[DW];congr 1;cases x.cp<;>simp[bl]
theorem E8 {c:List Ar} {l:List Tp} {b:Nat} (y:Tp):y∈Db c l b↔∃x∈l,∃a∈c,a.fr=x.st/\a.set.m b=true/\y=⟨a.to,x.out++a.putB b⟩:=by
 unfold Db;simp only[Bz,Bd,BV,AW,DF];constructor
 .rintro ⟨x,d,a,⟨e,h1,h2⟩,rfl⟩;exact⟨x,d,a,e,h1,h2,rfl⟩
 .rintro ⟨x,d,a,e,h1,h2,rfl⟩;exact⟨x,d,a,⟨e,h1,h2⟩,rfl⟩
theorem RI {t:Fs} {l:List Tp} {b:UInt8} (w o:List UInt8):IK t l (b::w) o↔IK t (Db t.arcs l b.toNat) w o:=by
 constructor
 .rintro ⟨x,c,z,d,e,k,rfl⟩;obtain⟨a,f,g,i,j,m,rfl⟩:=Way.cons_iff.1 k;refine⟨⟨a.to,x.out++a.putB b.toNat⟩,(E8 _).2 ⟨x,c,a,f,g,i,rfl⟩,z,d,j,m,?_⟩;show _=bl (x.out++a.putB b.toNat)++j++bl z.out;rw[DW,Ar.putB_bl];simp
 .rintro ⟨y,n,z,d,e,k,rfl⟩;obtain⟨x,c,a,f,g,i,rfl⟩:=(E8 _).1 n;refine⟨x,c,z,d,a.put b++e,.cons a f g i k,?_⟩;show bl (x.out++a.putB b.toNat)++e++bl z.out=_;rw[DW,Ar.putB_bl];simp
theorem Rd {t:Fs} {l:List Tp} (s:ByteArray):(s∈l.flatMap fun x=>(t.ends.filter fun z=>z.st==x.st).map fun z=>x.out++z.out)↔IK t l [] (bl s):=by
 simp only[Bz,Bd,BV,DF];constructor
 .rintro ⟨x,a,z,⟨b,c⟩,rfl⟩;refine⟨x,a,z,b,[],?_,by rw[DW];simp⟩;rw[c];exact .nil _
 .rintro ⟨x,a,z,b,f,k,d⟩;obtain⟨rfl,e⟩:=Way.nil_iff.1 k;exact⟨x,a,z,⟨b,e⟩,D_ (by rw[DW,d];simp)⟩
theorem NW {t:Fs} {l:List Tp} {o:List UInt8} (h:IK t l [] o):∃s,bl s=o/\IK t l [] (bl s):=⟨⟨o.toArray⟩,rfl,h⟩
theorem Tm {t:Fs} {l:List Tp} {e:Bool} {s:ByteArray} (h:JK t.ends l=.ok (e,s)) :s.size<=4096/\(e=false->s=ByteArray.empty)/\∀o,IK t l [] o↔e=true/\o=bl s:=by
 unfold JK at h;have f:=fun s=>Rd (t:=t) (l:=l) s
 split at h
 .rename_i d
  injection h with h
  injection h with he b
  subst he b;refine⟨by decide,fun _=>rfl,fun o=>⟨fun c=>?_,fun c=>by cases c.1⟩⟩;obtain⟨s,rfl,b⟩:=NW c;have:=(f s).2 b;rw[d]at this;cases this
 .rename_i g r d
  split at h
  .rename_i a
   split at h
   .cases h
   .injection h with h
    injection h with he b
    subst he b;refine⟨by omega,(by intro h;cases h),fun o=>⟨fun c=>?_,?_⟩⟩
    .obtain ⟨s,rfl,b⟩:=NW c
     have:=(f s).2 b;rw[d]at this;rcases Bh.1 this with rfl|i
     .exact ⟨rfl,rfl⟩
     .rw [CS]at a;have:=a s i;have:s=g:=D_ (by rw[Gi,DF,DT,DT]at this;exact this);subst this;exact⟨rfl,rfl⟩
    .rintro ⟨_,rfl⟩;exact(f g).1 (by rw[d];simp)
  .cases h
theorem XK {t:Fs} {l:List Tp} {e:Int} (h:JK t.ends l=.error e):e=2\/(e=12/\∃c d,c≠d/\IK t l [] c/\IK t l [] d):=by
 unfold JK at h;have f:=fun s=>Rd (t:=t) (l:=l) s
 split at h
 .cases h
 .rename_i g r i
  split at h
  .split at h
   .injection h with h;exact .inl h.symm
   .cases h
  .rename_i a
   injection h with h
   refine .inr ⟨h.symm,?_⟩;rw[D5,List.all_eq_false]at a;obtain⟨x,j,b⟩:=a;refine⟨bl g,bl x,fun e=>b ?_,(f g).1 (by rw[i];simp),(f x).1 (by rw[i];simp[j])⟩;rw[D_ e,Gi];exact beq_self_eq_true _
theorem Reached.rel {t:Fs} {l:List Tp} {u c:List UInt8} (h:∀x∈l,∃a∈t.starts,∃o,Way t.arcs a.st u o x.st/\bl a.out++o=c++bl x.out) {w o:List UInt8} (k:IK t l w o):RV t (u++w) (c++o):=by
 obtain⟨x,f,z,g,b,i,rfl⟩:=k;obtain⟨a,d,e,h0,e0⟩:=h x f;refine⟨a,d,z,g,e++b,h0.app i,?_⟩;have:bl a.out++(e++b)=c++bl x.out++b:=by rw[<-Ac,e0]
 rw[this];simp
theorem Reached.many {t:Fs} {l:List Tp} (i:∀s,F6 t.n s->Useful t s) (h:Reached t l) (a:Iz t l) (k:∃x∈l,∃y∈l,x.st=y.st/\x.out≠y.out):KH t:=by obtain⟨u,c,h⟩:=h;obtain⟨x,d,y,j,m,b⟩:=k;obtain⟨_,_,z,f,w,o,g⟩:=i x.st (a x d);refine⟨u++w,c++(bl x.out++o++bl z.out),c++(bl y.out++o++bl z.out),fun e=>b ?_,Reached.rel h ⟨x,d,z,f,o,g,rfl⟩,Reached.rel h ⟨y,j,z,f,o,m▸g,rfl⟩⟩;have:=Da e;rw[Ac,Ac]at this;exact D_ (List.append_cancel_right this)
theorem Reached.many0 {t:Fs} {l:List Tp} (h:Reached t l) (k:∃a b,a≠b/\IK t l [] a/\IK t l [] b):KH t:=by obtain⟨u,c,h⟩:=h;obtain⟨a,b,d,h1,h2⟩:=k;exact⟨u++[],c++a,c++b,fun e=>d (Da e),Reached.rel h h1,Reached.rel h h2⟩
theorem Reached.behind {t:Fs} {l:List Tp} (h:Reached t l) (b:Nat) (q:b<256):Reached t (Db t.arcs l b):=by
 obtain⟨u,c,h⟩:=h;refine⟨u++[b.toUInt8],c,fun y g=>?_⟩;obtain⟨x,i,a,j,m,n,rfl⟩:=(E8 y).1 g;obtain⟨p,d,o,k,e⟩:=h x i;have f:(b.toUInt8).toNat=b:=by simp;omega
 refine⟨p,d,o++a.put b.toUInt8,Way.snoc_iff.2 ⟨x.st,o,k,a,j,m,by rw[f];exact n,rfl,rfl⟩,?_⟩;show _=c++bl (x.out++a.putB b);rw[DW,<-Ac,e,<-Ar.putB_bl,f];simp
theorem Reached.strip {t:Fs} {l l':List Tp} {f:ByteArray} (h:Reached t l) (d:EU l=.ok (f,l')):Reached t l':=by obtain⟨u,c,h⟩:=h;obtain⟨_,_,g,i⟩:=Hh d;refine⟨u,c++bl f,fun y j=>?_⟩;obtain⟨x,b,rfl⟩:=(g y).1 j;obtain⟨m,a,o,k,e⟩:=h x b;exact⟨m,a,o,k,by rw[e,i x b];simp⟩
theorem Iz.behind {t:Fs} {l:List Tp} (c:FR t) (b:Nat):Iz t (Db t.arcs l b):=fun y d=>by obtain⟨x,f,a,e,g,i,rfl⟩:=(E8 y).1 d;exact(c.2.2.2 a e).2
theorem Iz.strip {t:Fs} {l l':List Tp} {f:ByteArray} (h:Iz t l) (a:EU l=.ok (f,l')):Iz t l':=fun y b=>by obtain⟨x,c,rfl⟩:=((Hh a).2.2.1 y).1 b;exact h x c
end
section
open Go.Lib
def Tn (arcs:List Ar) (rows:List (List Tp)) (l:List Tp) (z:Int) (o:ByteArray) (b:Nat):Prop:=(Db arcs l b=[]/\z=-1/\o=ByteArray.empty)\/(∃j:Nat,z=j/\∃r',EU (Db arcs l b)=.ok (o,r')/\rows[j]?=some r')
def O0 (arcs:List Ar) (rows:List (List Tp)) (l:List Tp) (next:List Int) (outs:List ByteArray) (k:Nat):Prop:=next.length=k/\outs.length=k/\∀b,b<k->Tn arcs rows l (next.getD b 0) (outs.getD b ByteArray.empty) b
theorem Sj {α:Type} {l l':List α} (h:l <+: l') {j:Nat} {x:α} (a:l[j]?=some x):l'[j]?=some x:=by
 obtain⟨r,rfl⟩:=h
 have b:j<l.length:=by
  rcases BF j l.length with h|h
  .exact h
  .rw [AY h]at a;cases a
 rw[Bi b];exact a
theorem Tn.mono {c:List Ar} {rows a:List (List Tp)} {l:List Tp} {z:Int} {o:ByteArray} {b:Nat} (h:Tn c rows l z o b) (d:rows <+: a):Tn c a l z o b:=by
 rcases h with h|⟨j,e,f,g,hr⟩
 .exact .inl h
 .exact .inr ⟨j,e,f,g,Sj d hr⟩
theorem O0.mono {c:List Ar} {rows a:List (List Tp)} {l:List Tp} {next:List Int} {outs:List ByteArray} {k:Nat} (h:O0 c rows l next outs k) (d:rows <+: a):O0 c a l next outs k:=⟨h.1,h.2.1,fun b e=>(h.2.2 b e).mono d⟩
theorem Hi {α:Type} (l:List α) (x d:α) (b:Nat) (h:b<l.length):(l++[x]).getD b d=l.getD b d:=by rw[AC,AC,Bi h]
theorem Hk {α:Type} (l:List α) (x d:α):(l++[x]).getD l.length d=x:=by rw[AC,CT (AD _)];simp
theorem O0.snoc {a:List Ar} {rows:List (List Tp)} {l:List Tp} {next:List Int} {outs:List ByteArray} {k:Nat} (h:O0 a rows l next outs k) {z:Int} {o:ByteArray} (d:Tn a rows l z o k):O0 a rows l (next++[z]) (outs++[o]) (k+1):=by
 obtain⟨h1,h2,h3⟩:=h;refine⟨by simp[h1],by simp[h2],fun b i=>?_⟩;rcases BF b k with c|e
 .rw [Hi _ _ _ _ (by omega),Hi _ _ _ _ (by omega)];exact h3 b c
 .have:b=k:=by omega
  subst this;have f:(next++[z]).getD b 0=z:=by rw[<-h1];exact Hk _ _ _
  have g:(outs++[o]).getD b ByteArray.empty=o:=by rw[<-h2];exact Hk _ _ _
  rw[f,g];exact d
def OZ (t:Fs) (most:Nat) (rows:List (List Tp)):Prop:=rows.length<=most/\∀r∈rows,Reached t r/\Iz t r
theorem Kk {most:Nat} {rows a:List (List Tp)} {l:List Tp} {i:Nat} (h:FO most rows l=.ok (i,a)) (c:rows.length<=most) :rows <+: a/\a.length<=most/\a[i]?=some l/\∀r∈a,r∈rows\/r=l:=by
 unfold FO at h;split at h
 .rename_i j b
  injection h with h
  injection h with hi hr
  subst hi hr;refine⟨CW _,c,?_,fun r hr=>.inl hr⟩;rw[List.idxOf?_eq_some_iff]at b;obtain⟨h1,h2,_⟩:=b;rw[AG h1];simpa using h2
 .split at h
  .cases h
  .injection h with h
   injection h with hi hr
   subst hi hr;refine⟨Cj _ _,by simp;omega,by simp,fun r hr=>?_⟩;simpa using hr
theorem P6 {most:Nat} {rows:List (List Tp)} {l:List Tp} {e:Int} (h:FO most rows l=.error e):e=2:=by
 unfold FO at h;split at h
 .cases h
 .split at h
  .injection h with h;exact h.symm
  .cases h
section
variable {t:Fs} {most:Nat} (hr:FR t) (hu:∀s,F6 t.n s->Useful t s)
include hr hu
omit hu in
theorem Re {l:List Tp} {rows:List (List Tp)} (j:OZ t most rows) (m:Reached t l/\Iz t l):∀(k:Nat),k<=256->∀{a:List (List Tp)×List Int×List ByteArray},Et t.arcs most l rows k=.ok a ->rows <+: a.1/\OZ t most a.1/\O0 t.arcs a.1 l a.2.1 a.2.2 k
 | 0,_,a,h=>by
  injection h with h
  subst h;exact⟨CW _,j,rfl,rfl,fun b c=>absurd c (by omega)⟩
 | k+1,hk,a,h=>by
  unfold Et at h;split at h
  .cases h
  rename_i n s;obtain⟨h1,h2,h3⟩:=Re j m k (by omega) s;unfold MH at h;split at h
  .rename_i c
   injection h with h
   subst h;exact⟨h1,h2,h3.snoc (.inl ⟨c,rfl,rfl⟩)⟩
  .rename_i x r c
   split at h
   .cases h
   rename_i o u d;split at h
   .cases h
   rename_i i e f;injection h with h
   subst h;obtain⟨p,v,w,y⟩:=Kk f h2.1;rw[<-c]at d;refine⟨h1.trans p,⟨v,fun q g=>?_⟩,(h3.mono p).snoc (.inr ⟨i,rfl,u,d,w⟩)⟩;rcases y q g with g|rfl
   .exact h2.2 q g
   .exact ⟨(m.1.behind k (by omega)).strip d,(Iz.behind hr k).strip d⟩
theorem P7 {l:List Tp} {rows:List (List Tp)} (i:OZ t most rows) (c:Reached t l/\Iz t l):∀(k:Nat),k<=256->∀{e:Int},Et t.arcs most l rows k=.error e->e=2\/(e=12/\KH t)
 | 0,_,e,h=>by cases h
 | k+1,hk,e,h=>by
  unfold Et at h;split at h
  .rename_i d f
   injection h with h
   subst h;exact P7 i c k (by omega) f
  rename_i g f;unfold MH at h;split at h
  .cases h
  .rename_i x r j
   split at h
   .rename_i d a
    injection h with h
    subst h;rw[<-j]at a;rcases P2 a with h|⟨h,m⟩
    .exact .inl h
    .exact .inr ⟨h,(c.1.behind k (by omega)).many hu (Iz.behind hr k) m⟩
   rename_i o n a;split at h
   .rename_i d b
    injection h with h
    subst h;exact .inl (P6 b)
   .cases h
structure Made (t:Fs) (most:Nat) (m:Mk) (s:Nat):Prop where
 rows:OZ t most m.rows
 next:m.next.length=s
 outs:m.outs.length=s
 ends:m.ends.length=s
 tails:m.tails.length=s
 le:s<=m.rows.length
 row:∀i,i<s->O0 t.arcs m.rows (m.rows.getD i []) (m.next.getD i []) (m.outs.getD i []) 256
 tail:∀i,i<s->JK t.ends (m.rows.getD i [])=.ok (m.ends.getD i false,m.tails.getD i ByteArray.empty)
omit hr hu in
theorem Nx {l l':List (List Tp)} (h:l <+: l') {j:Nat} (a:j<l.length):l'.getD j []=l.getD j []:=by rw[AC,AC,Sj h (AG a),AG a]
omit hr hu in
theorem P8 {l:List (List Tp)} {j:Nat} (a:j<l.length):l.getD j []∈l:=by rw[AC,AG a];exact CI _
omit hu in
theorem Yw {m m':Mk} {s:Nat} (h:Tg t most m s=.ok m') (a:Made t most m s) (c:s<m.rows.length):Made t most m' (s+1)/\m.rows <+: m'.rows:=by
 unfold Tg at h;split at h
 .cases h
 rename_i e o j;split at h
 .cases h
 rename_i rows next outs k;injection h with h
 subst h;have l:=a.rows.2 _ (P8 c);obtain⟨h1,h2,h3⟩:=Re hr a.rows l 256 (AD _) k;simp only at h1 h2 h3;have n:=h1.length_le;refine⟨⟨h2,by simp[a.next],by simp[a.outs],by simp[a.ends],by simp[a.tails],by simp only;omega,fun i hi=>?_,fun i hi=>?_⟩,h1⟩
 .rcases BF i s with b|d
  .simp only;rw[Nx h1 (by omega),Hi _ _ _ _ (by rw[a.next];exact b),Hi _ _ _ _ (by rw[a.outs];exact b)];exact(a.row i b).mono h1
  .have:i=s:=by omega
   subst this;simp only;rw[Nx h1 c];have f:(m.next++[next]).getD i []=next:=by rw[<-a.next];exact Hk _ _ _
   have g:(m.outs++[outs]).getD i []=outs:=by rw[<-a.outs];exact Hk _ _ _
   rw[f,g];exact h3
 .rcases BF i s with b|d
  .simp only;rw[Nx h1 (by omega),Hi _ _ _ _ (by rw[a.ends];exact b),Hi _ _ _ _ (by rw[a.tails];exact b)];exact a.tail i b
  .have:i=s:=by omega
   subst this;simp only;rw[Nx h1 c];have f:(m.ends++[e]).getD i false=e:=by rw[<-a.ends];exact Hk _ _ _
   have g:(m.tails++[o]).getD i ByteArray.empty=o:=by rw[<-a.tails];exact Hk _ _ _
   rw[f,g];exact j
theorem X0V {m:Mk} {s:Nat} {e:Int} (h:Tg t most m s=.error e) (a:Made t most m s) (c:s<m.rows.length):e=2\/(e=12/\KH t):=by
 have b:=a.rows.2 _ (P8 c);unfold Tg at h;split at h
 .rename_i d f
  injection h with h
  subst h;rcases XK f with h|⟨h,k⟩
  .exact .inl h
  .exact .inr ⟨h,b.1.many0 k⟩
 split at h
 .rename_i d g
  injection h with h
  subst h;exact P7 hr hu a.rows b 256 (AD _) g
 .cases h
omit hu in
theorem Tq:∀(k s:Nat) (m m':Mk),IS t most k s m=.ok m'->Made t most m s->most<=s+k->Made t most m' m'.rows.length/\m.rows <+: m'.rows
 | 0,s,m,m',h,hm,hk=>by
  injection h with h
  subst h;have e:m.rows.length=s:=by have:=hm.le;have:=hm.rows.1;omega
  rw[e];exact⟨hm,CW _⟩
 | k+1,s,m,m',h,hm,hk=>by
  unfold IS at h;split at h
  .rename_i a
   split at h
   .cases h
   rename_i b c;obtain⟨h1,h2⟩:=Yw hr c hm a;obtain⟨h3,h4⟩:=Tq k (s+1) b m' h h1 (by omega);exact⟨h3,h2.trans h4⟩
  .injection h with h
   subst h;have e:m.rows.length=s:=by have:=hm.le;omega
   rw[e];exact⟨hm,CW _⟩
theorem Rf:∀(k s:Nat) (m:Mk) (e:Int),IS t most k s m=.error e->Made t most m s->e=2\/(e=12/\KH t)
 | 0,s,m,e,h,hm=>by cases h
 | k+1,s,m,e,h,hm=>by
  unfold IS at h;split at h
  .rename_i b
   split at h
   .rename_i d a
    injection h with h
    subst h;exact X0V hr hu a hm b
   rename_i c a;exact Rf k (s+1) c e h (Yw hr a hm b).1
  .cases h
omit hu hr in
theorem Jq:Reached t t.starts:=⟨[],[],fun x a=>⟨x,a,[],.nil _,by simp⟩⟩
structure Is (t:Fs) (most:Nat) (q:SeqM) (m:Mk):Prop where
 next:q.next=m.next
 outs:q.outs=m.outs
 ends:q.ends=m.ends
 tail:q.tail=m.tails
 made:Made t most m m.rows.length
 front:∃l,EU t.starts=.ok (q.front,l)/\m.rows[0]?=some l
omit hu in
theorem Sk {q:SeqM} (h:IC t most=.ok q):(t.starts=[]/\q=MI)\/∃m,Is t most q m:=by
 unfold IC at h;split at h
 .rename_i h0
  injection h with h
  exact .inl ⟨h0,h.symm⟩
 rename_i x r h0;split at h
 .cases h
 rename_i front l b;split at h
 .cases h
 rename_i i rows a;split at h
 .cases h
 rename_i m d;injection h with h
 subst h;obtain⟨u,e,f,g⟩:=Kk a (AN _)
 have k:OZ t most rows:=⟨e,fun q c=>by
  rcases g q c with c|rfl
  .cases c
  .exact ⟨Jq.strip b,Iz.strip (fun x n=>hr.2.1 x n) b⟩⟩
 have hi:i=0:=by
  unfold FO at a;split at a
  .rename_i j o;cases o
  .split at a
   .cases a
   .injection a with a
    injection a with hi _
    exact hi.symm
 subst hi;obtain⟨p,s⟩:=Tq hr most 0 ⟨rows,[],[],[],[]⟩ m d ⟨k,rfl,rfl,rfl,rfl,AN _,fun i hi=>absurd hi (by omega),fun i hi=>absurd hi (by omega)⟩ (by omega);exact .inr ⟨m,rfl,rfl,rfl,rfl,p,l,b,Sj s f⟩
theorem Ny {e:Int} (h:IC t most=.error e):e=2\/(e=12/\KH t):=by
 unfold IC at h;split at h
 .cases h
 rename_i x r h0;split at h
 .rename_i f b
  injection h with h
  subst h;rcases P2 b with h|⟨h,k⟩
  .exact .inl h
  .exact .inr ⟨h,Jq.many hu (fun x c=>hr.2.1 x c) k⟩
 rename_i front l b;split at h
 .rename_i f a
  injection h with h
  subst h;exact .inl (P6 a)
 rename_i i rows a;split at h
 .rename_i f g
  injection h with h
  subst h;obtain⟨o,j,p,m⟩:=Kk a (AN _)
  have n:OZ t most rows:=⟨j,fun q d=>by
   rcases m q d with d|rfl
   .cases d
   .exact ⟨Jq.strip b,Iz.strip (fun x c=>hr.2.1 x c) b⟩⟩
  exact Rf hr hu most 0 ⟨rows,[],[],[],[]⟩ _ g ⟨n,rfl,rfl,rfl,rfl,AN _,fun i hi=>absurd hi (by omega),fun i hi=>absurd hi (by omega)⟩
 .cases h
omit hr hu in
theorem Is.runL {q:SeqM} {m:Mk} (h:Is t most q m):∀(w o:List UInt8) (s:Nat),s<m.rows.length->(q.runL s w=some o↔IK t (m.rows.getD s []) w o)
 | [],o,s,hs=>by
  unfold SeqM.runL SeqM.en SeqM.tl;rw[h.ends,h.tail];obtain⟨_,_,n⟩:=Tm (h.made.tail s hs);rw[n o];cases m.ends.getD s false
  .simp
  .simp [eq_comm]
 | b::w,o,s,hs=>by
  have p:=u8_lt b;obtain⟨_,_,a⟩:=h.made.row s hs;rw[RI];unfold SeqM.runL SeqM.nx SeqM.os;rw[h.next,h.outs];rcases a b.toNat p with⟨h0,g,v⟩|⟨j,g,r,i,l⟩
  .rw [g,h0]
   simp only[show(-1:Int)<0 by decide,Dm];constructor
   .intro k;cases k
   .rintro ⟨x,u,_⟩;cases u
  .rw [g,AP (by omega),Nw i]
   have c:j<m.rows.length:=by
    rcases BF j m.rows.length with h|h
    .exact h
    .rw [AY h]at l;cases l
   have d:m.rows.getD j []=r:=by rw[AC,l];rfl
   rw[BO];constructor
   .intro k;obtain⟨e,f,rfl⟩:=CU.1 k;rw[Is.runL h w e j c,d]at f;exact⟨e,f,rfl⟩
   .rintro ⟨e,f,rfl⟩;rw[(Is.runL h w e j c).2 (by rw[d];exact f)];rfl
omit hu in
theorem P9 {q:SeqM} (h:IC t most=.ok q) (w o:List UInt8):q.run w=some o↔RV t w o:=by
 rcases Sk hr h with⟨h0,rfl⟩|⟨m,a⟩
 .constructor
  .intro k;cases k
  .rintro ⟨x,e,_⟩;rw[h0]at e;cases e
 .obtain ⟨l,f,h0⟩:=a.front
  have h1:0<m.rows.length:=by
   rcases BF 0 m.rows.length with h|h
   .exact h
   .rw [AY h]at h0;cases h0
  have b:m.rows.getD 0 []=l:=by rw[AC,h0];rfl
  unfold SeqM.run;rw[a.next,a.made.next,AP (by omega),VI,Nw f];constructor
  .intro k;obtain⟨c,d,rfl⟩:=CU.1 k;rw[a.runL w c 0 h1,b]at d;exact⟨c,d,rfl⟩
  .rintro ⟨c,d,rfl⟩;rw[(a.runL w c 0 h1).2 (by rw[b];exact d)];rfl
omit hu in
theorem VK {q:SeqM} (h:IC t most=.ok q):q.next.length<=most/\q.outs.length=q.next.length/\q.ends.length=q.next.length/\q.tail.length=q.next.length/\q.front.size<=4096/\(q.next.length=0->q.front=ByteArray.empty) /\∀s,s<q.next.length->(q.tl s).size<=4096/\(q.en s=false->q.tl s=ByteArray.empty)/\(q.next.getD s []).length=256/\(q.outs.getD s []).length=256 /\∀b,b<256->-1<=q.nx s b/\q.nx s b<q.next.length/\(q.os s b).size<=4096/\(q.nx s b=-1->q.os s b=ByteArray.empty):=by
 rcases Sk hr h with⟨h0,rfl⟩|⟨m,a⟩
 .exact ⟨AN _,rfl,rfl,rfl,by decide,fun _=>rfl,fun s d=>absurd d (B6 _)⟩
 .obtain ⟨l,c,h0⟩:=a.front
  have h1:0<m.rows.length:=by
   rcases BF 0 m.rows.length with h|h
   .exact h
   .rw [AY h]at h0;cases h0
  rw[a.next,a.outs,a.ends,a.tail,a.made.next,a.made.outs,a.made.ends,a.made.tails];refine⟨a.made.rows.1,rfl,rfl,rfl,(Hh c).1,fun h=>by omega,fun s d=>?_⟩;unfold SeqM.tl SeqM.en SeqM.nx SeqM.os;rw[a.next,a.outs,a.ends,a.tail];obtain⟨t1,t2,_⟩:=Tm (a.made.tail s d);obtain⟨g,i,k⟩:=a.made.row s d;refine⟨t1,t2,g,i,fun b n=>?_⟩;rcases k b n with⟨_,e,o⟩|⟨j,e,r,c,f⟩
  .rw [e,o];exact⟨by omega,by omega,by decide,fun _=>rfl⟩
  .rw [e]
   have p:j<m.rows.length:=by
    rcases BF j m.rows.length with h|h
    .exact h
    .rw [AY h]at f;cases f
   exact⟨by omega,by omega,(Hh c).1,fun h=>by omega⟩
end
end
section
theorem Ek {α:Type} (l:List α) (d:α) (k:Nat) (a:k<l.length):l.take (k+1)=l.take k++[l.getD k d]:=by rw[Bq a,AC,AG a];rfl
end
section
def JN (x:Tp) (S:List Tp) (ov:Bool):List Tp×Bool:=if x∈S\/ov=true then(S,ov)else if 1024<=S.length\/1024<x.out.size then(S,true)else(S++[x],false)
def MS (x:Ar) (S:List Ar) (ov:Bool):List Ar×Bool:=if x∈S\/ov=true then(S,ov)else if 16384<=S.length\/1024<x.out.size then(S,true)else(S++[x],false)
def Eu {α:Type} (S:List α) (ov:Bool) (l:List (Option α)):Prop:=ov=false->none∉l/\∀x,x∈S↔some x∈l
theorem Eu.nil {α:Type}:Eu ([]:List α) false []:=fun _=>⟨BP,fun _x=>⟨fun h=>(BP h).elim,fun h=>(BP h).elim⟩⟩
theorem Eu.over {α:Type} (S:List α) (l:List (Option α)):Eu S true l:=fun h=>by cases h
theorem Eu.snoc {α:Type} {S:List α} {l:List (Option α)} {x:α} (h:none∉l/\∀y,y∈S↔some y∈l):(none∉l++[some x])/\∀y,(y∈S\/y=x)↔some y∈l++[some x]:=by
 refine⟨fun h2=>?_,fun y=>?_⟩
 .rcases Bj.1 h2 with h3|h3
  .exact h.1 h3
  .cases AM.1 h3
 .rw [Bj,AM,h.2 y];exact⟨fun h=>h.imp id (fun e=>by rw[e]),fun h=>h.imp id (fun e=>AL e)⟩
theorem Eu.tip {S:List Tp} {b:Bool} {l:List (Option Tp)} (h:Eu S b l) (x:Tp):Eu (JN x S b).1 (JN x S b).2 (l++[some x]):=by
 unfold JN;split
 .rename_i h1;intro a;replace a:b=false:=a;have h2:=Eu.snoc (x:=x) (h a);refine⟨h2.1,fun y=>?_⟩;rw[<-h2.2 y];have c:x∈S:=h1.resolve_right (by rw[a];decide);exact⟨.inl,fun h=>h.elim id (fun e=>by rw[e];exact c)⟩
 .rename_i h1
  split
  .exact Eu.over _ _
  .intro _;have h2:=Eu.snoc (x:=x) (h (by rcases b with _|_;rfl;exact absurd (.inr rfl) h1));exact⟨h2.1,fun y=>by rw[<-h2.2 y,Bj,AM]⟩
theorem Eu.arc {S:List Ar} {b:Bool} {l:List (Option Ar)} (h:Eu S b l) (x:Ar):Eu (MS x S b).1 (MS x S b).2 (l++[some x]):=by
 unfold MS;split
 .rename_i h1;intro a;replace a:b=false:=a;have h2:=Eu.snoc (x:=x) (h a);refine⟨h2.1,fun y=>?_⟩;rw[<-h2.2 y];have c:x∈S:=h1.resolve_right (by rw[a];decide);exact⟨.inl,fun h=>h.elim id (fun e=>by rw[e];exact c)⟩
 .rename_i h1
  split
  .exact Eu.over _ _
  .intro _;have h2:=Eu.snoc (x:=x) (h (by rcases b with _|_;rfl;exact absurd (.inr rfl) h1));exact⟨h2.1,fun y=>by rw[<-h2.2 y,Bj,AM]⟩
def Gg (n:Int) (S:List Tp):Prop:=S.length<=1024/\∀x∈S,0<=x.st/\x.st<n/\x.out.size<=1024
theorem Gg.tip {n:Int} {S:List Tp} (h:Gg n S) (x:Tp) (b:Bool) (a:0<=x.st/\x.st<n):Gg n (JN x S b).1:=by
 unfold JN;split
 .exact h
 split
 .exact h
 .rename_i _ h1
  refine⟨by rw[AJ,BJ];omega,fun y c=>?_⟩;rcases Bj.1 c with h2|h2
  .exact h.2 y h2
  .rw [AM.1 h2];exact⟨a.1,a.2,by omega⟩
def Ka (n:Int) (A:List Ar):Prop:=A.length<=16384/\∀x∈A,0<=x.fr/\x.fr<n/\0<=x.to/\x.to<n/\x.out.size<=1024/\OU x.set/\x.set≠St.none
theorem Ka.arc {n:Int} {A:List Ar} (h:Ka n A) (x:Ar) (c:Bool) (a:0<=x.fr/\x.fr<n/\0<=x.to/\x.to<n) (b:OU x.set/\x.set≠St.none):Ka n (MS x A c).1:=by
 unfold MS;split
 .exact h
 split
 .exact h
 .rename_i _ h1
  refine⟨by rw[AJ,BJ];omega,fun y d=>?_⟩;rcases Bj.1 d with h2|h2
  .exact h.2 y h2
  .rw [AM.1 h2];exact⟨a.1,a.2.1,a.2.2.1,a.2.2.2,by omega,b.1,b.2⟩
end
section
def valD (l:List UInt8):Nat:=l.foldl (fun a c=>a*10+(c.toNat-48)) 0
theorem Dw (u:Nat):valD (Lib.decDigits u)=u/\(58:UInt8)∉Lib.decDigits u:=by
 induction u using Nat.strongRecOn with
 | _ u ih=>
  have a:∀i,i<10->(UInt8.ofNat (48+i)).toNat=48+i:=fun i hi=>by simp;omega
  have b:∀i,i<10->(58:UInt8)≠UInt8.ofNat (48+i):=fun i hi e=>by have:=BY UInt8.toNat e;rw[a i hi]at this;have h58:(58:UInt8).toNat=58:=rfl;omega
  rw[Lib.decDigits];split
  .rename_i h;exact⟨by unfold valD;simp only[List.foldl_cons,List.foldl_nil];rw[a u h];omega,by rw[AM];exact b u h⟩
  .rename_i h
   obtain⟨h1,h2⟩:=ih (u / 10) (by omega);have c:u%10<10:=Cz _ (by decide);refine⟨?_,?_⟩
   .unfold valD at h1 ⊢;rw[List.foldl_append,h1];simp only[List.foldl_cons,List.foldl_nil];rw[a _ c];omega
   .rw [Bj,AM];exact fun h=>h.elim h2 (b _ c)
theorem JE {u v:Nat} (h:Lib.decDigits u=Lib.decDigits v):u=v:=by rw[<-(Dw u).1,<-(Dw v).1,h]
theorem IV:∀{a b x y:List UInt8},(58:UInt8)∉a->(58:UInt8)∉b->a++58::x=b++58::y->a=b/\x=y
 | [],[],_,_,_,_,h=>⟨rfl,by injection h⟩
 | [],c::b,_,_,_,hb,h=>by injection h with h _;exact(hb (by rw[h];exact BR)).elim
 | c::a,[],_,_,ha,_,h=>by injection h with h _;exact(ha (by rw[<-h];exact BR)).elim
 | c::a,d::b,x,y,ha,hb,h=>by
  injection h with h1 h2
  obtain⟨e,f⟩:=IV (fun h=>ha (CB _ h)) (fun h=>hb (CB _ h)) h2;exact⟨by rw[h1,e],f⟩
def Ko (x:Tp):List UInt8:=Lib.decDigits x.st.toNat++58::(Lib.decDigits x.out.size++58::bl x.out)
def Fa (l:List Tp):List UInt8:=l.flatMap Ko
theorem T6:∀{l m:List Tp},(∀x∈l,0<=x.st)->(∀x∈m,0<=x.st)->Fa l=Fa m->l=m
 | [],[],_,_,_=>rfl
 | [],y::m,_,_,h=>by have:=BY List.length h;simp[Fa,Ko]at this
 | x::l,[],_,_,h=>by have:=BY List.length h;simp[Fa,Ko]at this
 | x::l,y::m,hl,hm,h=>by
  have a:Ko x++Fa l=Ko y++Fa m:=h;unfold Ko at a;simp only[Ac,Cf]at a;obtain⟨c,h2⟩:=IV (Dw _).2 (Dw _).2 a;obtain⟨d,h3⟩:=IV (Dw _).2 (Dw _).2 h2;have s1:=JE c;have s2:=JE d;obtain⟨e,f⟩:=List.append_inj h3 (by rw[CK,CK];exact s2);have g:=hl x BR;have i:=hm y BR;have j:=T6 (fun z b=>hl z (CB _ b)) (fun z b=>hm z (CB _ b)) f;obtain⟨xs,k⟩:=x;obtain⟨n,o⟩:=y;simp only at s1 g i;have p:xs=n:=by omega
  have q:k=o:=D_ e;rw[j,p,q]
end
section
open Go.RowKit Go.Sort
section
variable {P:Program} {ops:Array Oper} {md:Region.Mode} {S:World->Prop} {Q:Exit->Act->World->Prop}
def T9 (md:Region.Mode) (ops:Array Oper) (n g:Nat) (dep:Nat->List Nat):Nat->List Nat->Array Bool->Bool
 | 0,is,listed=>is.isEmpty && Region.seqB md ops g n listed
 | k+1,is,listed=>!(Region.ready md ops listed).isEmpty && (Region.ready md ops listed).all fun i=>decide (i<n) && is.contains i && (dep i).all (fun j=>!is.contains j) && T9 md ops n g dep k (is.erase i) (listed.setIfInBounds i true)
theorem QT {n g:Nat} {tail:List Oper} {m:Nat->List Nat} (z:(ops.toList.drop n)=tail) (Inv:List Nat->Act->World->Prop) (b:∀c a W,Inv c a W->∀i∈c,(∀j∈m i,j∉c)->∃o,ops[i]?=some o/\o.guard=none/\o.wp P a W (fun p W'=>S W'/\Inv (c.erase i) p W') Q) (l:∀a W,Inv [] a W->wpList P ops Q tail a W) :∀(k:Nat) (c:List Nat) (listed:Array Bool) (a:Act) (w:World),T9 md ops n g m k c listed=true->Inv c a w ->N2 P md ops Q S n (fun f p w'=>Region.seqB md ops g n f=true/\wpList P ops Q tail p w') k listed a w
 | 0,c,_,a,w,hB,h=>by simp only[T9,AW,List.isEmpty_iff]at hB;rw[hB.1]at h;exact⟨hB.2,l a w h⟩
 | k+1,c,listed,a,w,hB,h=>by
  simp only[T9,AW,BB,CS,List.contains_iff_mem,Bool.not_eq_true']at hB;obtain⟨q,r⟩:=hB;refine⟨by intro e;rw[e]at q;simp at q,fun j A=>?_⟩;obtain⟨⟨⟨s,t⟩,u⟩,v⟩:=r j A;obtain⟨o,B,C,D⟩:=b c a w h j t (fun d E F=>by have h1:=u d E;have h2:c.contains d=true:=List.contains_iff_mem.2 F;rw[h2]at h1;cases h1);refine⟨s,?_⟩;unfold wpOp;simp only[B];have x:Region.wanted o (yielded ops a.tmps)=true:=by simp[Region.wanted,C]
  rw[AU x];exact .inl (Oper.wp_mono (fun p w' y=>⟨y.1,QT z Inv b l k _ _ p w' v y.2⟩) D)
def Lh (md:Region.Mode) (ops:Array Oper) (n:Nat) (qs is:List Nat) (dep:Nat->List Nat):Bool:=
 Region.noSelect ops && decide (n<ops.size) && Region.sinkB md ops n && Region.chainB md ops n && Od md ops n qs (Array.replicate ops.size false) &&
  T9 md ops n (ops.size-n) dep is.length is (N3 qs (Array.replicate ops.size false))
theorem MT {id:Nat} {a:Act} {w:World} {l:List Oper} (S:World->Prop) (n:Nat) (x b:List Nat) (k:Nat->List Nat) (y:List Oper) (G:P.follows .mixedOrders=true) (C:Lh .any l.toArray n x b k=true) (p:x.length+b.length=n) (I:x.map (fun i=>l.toArray[i]?)=y.map some) (J:∀c a d v w,Q (.panic c) (a.put d v) w->Q (.panic c) a w) (K:S w.drew) (Inv:List Nat->Act->World->Prop) (e:∀b a W,Inv b a W->∀i∈b,(∀j∈k i,j∉b)->∃o,l.toArray[i]?=some o/\o.guard=none/\o.wp P a W (fun f W'=>S W'/\Inv (b.erase i) f W') Q) (q:∀a W,Inv [] a W->wpList P l.toArray Q (l.drop n) a W) (h:wpQuiet P l.toArray S (fun f=>Inv b f w.drew) y a):(Code.region id l.toArray true).wp P Q a w:=by
 simp only[Lh,AW,BB]at C;obtain⟨⟨⟨⟨⟨r,D⟩,L⟩,M⟩,z⟩,A⟩:=C;have s:(l.drop n).length=l.toArray.size-n:=by simp
 have u:HeadInv .any l.toArray n (Array.replicate l.toArray.size false):=⟨by simp,fun j R _ E=>(by rw[C0]at E;cases E),fun t _ N=>getD_in (by simpa using N) (C0 _ _)⟩;have H:=J5 (P:=P) (S:=S) (md:=.any) (g:=l.toArray.size-n) (tail:=l.drop n) (m:=b.length) r L M D J K (fun f B=>QT rfl Inv e q b.length b _ f _ A B) x y _ a I u z rfl h;refine wp_region_any G ?_;have:=Ih (P:=P) (S:=S) (g:=l.toArray.size-n) (fun listed f w' F=>by have:=wpAny_of_seq (md:=.any) (Q':=Q) (l.drop n) n listed f w' (fun j=>by simp[Dt]) (by rw[s];exact F.1) F.2;rwa [s]at this) _ _ _ _ H;have O:n<l.toArray.size:=D;rw[p,show n+(l.toArray.size-n)=l.toArray.size by omega]at this;exact this
theorem EL {id:Nat} {a:Act} {w:World} {l:List Oper} (n:Nat) (f b:List Nat) (c:Nat->List Nat) (r:P.follows .mixedOrders=true) (s:Lh .any l.toArray n f b c=true) (g:f.length+b.length=n) (m:(f.all fun i=>decide (i<l.length))=true) (Inv:List Nat->Act->World->Prop) (e:∀b a W,Inv b a W->∀i∈b,(∀j∈c i,j∉b)->∃o,l.toArray[i]?=some o/\o.guard=none/\o.wp P a W (fun q W'=>(∃p:Regrown,W'=grow (redrawn w p.d) p.os)/\Inv (b.erase i) q W') (NoPanic Q)) (k:∀a W,Inv [] a W->wpList P l.toArray (NoPanic Q) (l.drop n) a W) (h:wpQuiet P l.toArray (fun w'=>∃p:Regrown,w'=grow (redrawn w p.d) p.os) (fun q=>Inv b q w.drew) (CV l f) a) :(Code.region id l.toArray true).wp P Q a w:=by refine wp_region_noPanic ?_;exact MT (fun w'=>∃p:Regrown,w'=grow (redrawn w p.d) p.os) n f b c _ r s g (FS l f m) (fun _ _ _ _ _ h=>h) ⟨⟨w.drawn+1,#[]⟩,by rw[F_];rfl⟩ Inv e k h
end
end
section
def Dc:List UInt8->List UInt8->List UInt8×List UInt8
 | x::a,y::b=>if x=y then Dc a b else(x::a,y::b)
 | [],b=>([],b)
 | a,[]=>(a,[])
def Red:List UInt8->List UInt8->Prop
 | x::_,y::_=>x≠y
 | _,_=>True
theorem JR (b:List UInt8):Dc [] b=([],b):=by cases b<;>rfl
theorem Jm (a:List UInt8):Dc a []=(a,[]):=by cases a<;>rfl
theorem Ml:∀a b,Red (Dc a b).1 (Dc a b).2
 | x::a,y::b=>by
  unfold Dc;split
  .exact Ml a b
  .rename_i h;exact h
 | [],b=>by rw[JR];cases b<;>trivial
 | x::a,[]=>by rw[Jm];trivial
theorem IP:∀a b,∃c,a=c++(Dc a b).1/\b=c++(Dc a b).2
 | x::a,y::b=>by
  unfold Dc;split
  .rename_i h;subst h;obtain⟨c,h1,h2⟩:=IP a b;exact⟨x::c,by rw[Cf,<-h1],by rw[Cf,<-h2]⟩
  .exact ⟨[],rfl,rfl⟩
 | [],b=>by rw[JR];exact⟨[],rfl,rfl⟩
 | x::a,[]=>by rw[Jm];exact⟨[],rfl,rfl⟩
theorem Pp:∀{a b:List UInt8},Red a b->Dc a b=(a,b)
 | x::a,y::b,h=>by unfold Dc;rw[AP h]
 | [],b,_=>JR b
 | x::a,[],_=>Jm _
theorem Nq (c a b:List UInt8):Dc (c++a) (c++b)=Dc a b:=by
 induction c with
 | nil=>rfl
 | cons x c ih=>rw[Cf,Cf,Dc,AU rfl,ih]
theorem LO (a b x y:List UInt8):Dc ((Dc a b).1++x) ((Dc a b).2++y)=Dc (a++x) (b++y):=by
 obtain⟨c,h1,h2⟩:=IP a b;have d:a++x=c++((Dc a b).1++x):=by rw[<-Ac,<-h1]
 have e:b++y=c++((Dc a b).2++y):=by rw[<-Ac,<-h2]
 rw[d,e,Nq]
theorem On:∀a b:List UInt8,Dc b a=((Dc a b).2,(Dc a b).1)
 | x::a,y::b=>by
  unfold Dc;by_cases h:x=y
  .rw [AU h,AU h.symm,On a b]
  .rw [AP h,AP (CF h)]
 | [],b=>by rw[JR,Jm]
 | x::a,[]=>by rw[JR,Jm]
theorem Mm (a b:List UInt8):(Dc a b).1.length<=a.length/\(Dc a b).2.length<=b.length:=by obtain⟨c,h1,h2⟩:=IP a b;have d:=BY List.length h1;have e:=BY List.length h2;rw[AJ]at d e;omega
theorem SU (a b:List UInt8):a.length+(Dc a b).2.length=b.length+(Dc a b).1.length:=by obtain⟨c,h1,h2⟩:=IP a b;have d:=BY List.length h1;have e:=BY List.length h2;rw[AJ]at d e;omega
theorem Red.app {a b:List UInt8} (h:Red a b) (c:a≠[]) (d:b≠[]) (x y:List UInt8):Red (a++x) (b++y):=by
 cases a with
 | nil=>exact absurd rfl c
 | cons u a=>
  cases b with
  | nil=>exact absurd rfl d
  | cons v b=>exact h
def rep (l:List UInt8):Nat->List UInt8
 | 0=>[]
 | n+1=>l++rep l n
theorem Ll (l:List UInt8) (n:Nat):(rep l n).length=n*l.length:=by
 induction n with
 | zero=>simp[rep]
 | succ n ih=>rw[rep,AJ,ih,EH,Nat.add_comm]
theorem XB (l:List UInt8) (m n:Nat):rep l (m+n)=rep l m++rep l n:=by
 induction m with
 | zero=>rw[C8];rfl
 | succ m ih=>rw[Nat.succ_add,rep,rep,ih,Ac]
theorem SV {b l1 l2:List UInt8} {K:Nat} (h:∀n,(Dc (rep l1 n) (b++rep l2 n)).1.length<=K/\(Dc (rep l1 n) (b++rep l2 n)).2.length<=K):Dc l1 (b++l2)=([],b):=by
 have t:l1.length=l2.length:=by
  obtain⟨g1,g2⟩:=h (b.length+K+1);have f:=SU (rep l1 (b.length+K+1)) (b++rep l2 (b.length+K+1));rw[AJ,Ll,Ll]at f;rcases Fz l1.length l2.length with a|i|a
  .have:=DZ (b.length+K+1) a;rw[Nat.mul_succ]at this;omega
  .exact i
  .have:=DZ (b.length+K+1) a;rw[Nat.mul_succ]at this;omega
 by_cases h0:l1.length=0
 .have w:l1=[]:=BD h0;have x:l2=[]:=BD (by omega);rw[w,x,BC];exact JR b
 have pre:∀n,rep l1 n <+: b++rep l2 n:=fun n=>by
  obtain⟨c,h1,h2⟩:=IP (rep l1 n) (b++rep l2 n);have y:=Ml (rep l1 n) (b++rep l2 n);have f:=SU (rep l1 n) (b++rep l2 n);rw[AJ,Ll,Ll,t]at f;have g:∀j,Dc (rep l1 (n+j)) (b++rep l2 (n+j))=Dc ((Dc (rep l1 n) (b++rep l2 n)).1++rep l1 j) ((Dc (rep l1 n) (b++rep l2 n)).2++rep l2 j):=fun j=>by rw[LO,XB,XB,Ac]
  generalize (Dc (rep l1 n) (b++rep l2 n)).1=u at *;generalize (Dc (rep l1 n) (b++rep l2 n)).2=v at *;by_cases k:u=[]
  .subst k;rw[BC]at h1;exact⟨v,by rw[h1];exact h2.symm⟩
  .by_cases p:v=[]
   .subst p;have:0<u.length:=List.length_pos_iff.2 k;simp only[Co]at f;omega
   .exfalso;have q:=g (K+1);rw[Pp (y.app k p _ _)]at q;have:=(h (n+(K+1))).1;rw[q]at this;simp only[AJ,Ll]at this;have:(K+1)*1<=(K+1)*l1.length:=DZ _ (by omega);omega
 have r:=pre 1;simp only[rep,BC]at r;obtain⟨l,d⟩:=r;have B:l.length=b.length:=by have:=BY List.length d;rw[AJ,AJ]at this;omega
 have s:=pre (b.length+1);rw[rep,rep,<-Ac,<-d,Ac]at s;have m:=(C_ l1).1 s;have o:=pre b.length;have e:b.length<=(rep l1 b.length).length:=by rw[Ll];have:b.length*1<=b.length*l1.length:=DZ _ (by omega);omega
 have z:=Ci (Cj b (rep l2 b.length)) o e;have q1:=Ci (Cj l (rep l2 b.length)) m (by omega);have A:=Ci z q1 (by omega);have i:b=l:=A.eq_of_length (by omega);rw[<-d,<-i];have:=Nq l1 [] b;rw[BC]at this;rw[this,JR]
theorem X0a {a b l1 l2:List UInt8} {K:Nat} (c:Red a b) (h:∀n,(Dc (a++rep l1 n) (b++rep l2 n)).1.length<=K/\(Dc (a++rep l1 n) (b++rep l2 n)).2.length<=K):Dc (a++l1) (b++l2)=(a,b):=by
 by_cases d:a=[]
 .subst d;exact SV h
 by_cases e:b=[]
 .subst e;rw[On,Cy,SV (K:=K) (b:=a) (l1:=l2) (l2:=l1) fun n=>by have:=h n;rw[On,Cy]at this;exact this.symm]
 .have h1:=h (K+1)
  rw[Pp (c.app d e _ _)]at h1;simp only[AJ,Ll]at h1
  have f:l1=[]:=by
   rcases B7 l1.length with h|h
   .exact BD h
   .have:(K+1)*1<=(K+1)*l1.length:=DZ _ (by omega);omega
  have g:l2=[]:=by
   rcases B7 l2.length with h|h
   .exact BD h
   .have:(K+1)*1<=(K+1)*l2.length:=DZ _ (by omega);omega
  rw[f,g,BC,BC];exact Pp c
def Two (t:Fs) (w:List UInt8) (p q:Int) (o1 o2:List UInt8):Prop:=(∃x∈t.starts,∃o,Way t.arcs x.st w o p/\o1=bl x.out++o)/\(∃y∈t.starts,∃o,Way t.arcs y.st w o q/\o2=bl y.out++o)
def Ep (t:Fs) (p q:Int) (a b:List UInt8):Prop:=∃w o1 o2,Two t w p q o1 o2/\Dc o1 o2=(a,b)
section
variable {t:Fs}
theorem Two.on {w v:List UInt8} {p q a b:Int} {c d l1 l2:List UInt8} (h:Two t w p q c d) (h1:Way t.arcs p v l1 a) (h2:Way t.arcs q v l2 b):Two t (w++v) a b (c++l1) (d++l2):=by obtain⟨⟨x,e,u1,f,rfl⟩,⟨y,g,u2,i,rfl⟩⟩:=h;exact⟨⟨x,e,_,f.app h1,Ac _ _ _⟩,⟨y,g,_,i.app h2,Ac _ _ _⟩⟩
theorem Ep.red {p q:Int} {a b:List UInt8} (h:Ep t p q a b):Red a b:=by obtain⟨w,c,d,_,e⟩:=h;have:=Ml c d;rw[e]at this;exact this
theorem Ep.on {v:List UInt8} {p q c d:Int} {a b l1 l2:List UInt8} (h:Ep t p q a b) (h1:Way t.arcs p v l1 c) (h2:Way t.arcs q v l2 d):Ep t c d (Dc (a++l1) (b++l2)).1 (Dc (a++l1) (b++l2)).2:=by obtain⟨w,f,g,k,e⟩:=h;refine⟨_,_,_,k.on h1 h2,?_⟩;have:=LO f g l1 l2;rw[e]at this;rw[<-this]
theorem Ep.start {x y:Tp} (a:x∈t.starts) (b:y∈t.starts):Ep t x.st y.st (Dc (bl x.out) (bl y.out)).1 (Dc (bl x.out) (bl y.out)).2:=⟨[],_,_,⟨⟨x,a,[],.nil _,rfl⟩,⟨y,b,[],.nil _,rfl⟩⟩,by rw[BC,BC]⟩
theorem JI {x:Ar} (a:x∈t.arcs) {c:UInt8} (b:x.set.m c.toNat=true):Way t.arcs x.fr [c] (x.put c) x.to:=by have:=Way.cons x a rfl b (.nil x.to);rwa [BC]at this
theorem Ep.step {p q:Int} {a b:List UInt8} (h:Ep t p q a b) {x y:Ar} (d:x∈t.arcs) (e:y∈t.arcs) (f:x.fr=p) (g:y.fr=q) {c:UInt8} (h1:x.set.m c.toNat=true) (h2:y.set.m c.toNat=true) :Ep t x.to y.to (Dc (a++x.put c) (b++y.put c)).1 (Dc (a++x.put c) (b++y.put c)).2:=by subst f g;exact h.on (JI d h1) (JI e h2)
theorem Way.rep {s:Int} {w l:List UInt8} (h:Way t.arcs s w l s):∀n,Way t.arcs s (rep w n) (rep l n) s
 | 0=>.nil _
 | n+1=>h.app (Way.rep h n)
theorem Ep.loop {K:Nat} (c:∀p q a b,Ep t p q a b->a.length<=K/\b.length<=K) {v:List UInt8} {p q:Int} {a b l1 l2:List UInt8} (h:Ep t p q a b) (h1:Way t.arcs p v l1 p) (h2:Way t.arcs q v l2 q):Dc (a++l1) (b++l2)=(a,b):=X0a (K:=K) h.red fun n=>c _ _ _ _ (h.on (h1.rep n) (h2.rep n))
end
end
section
def KM (t:Fs) (p q:Int):Prop:=∃w o1 o2,∃e∈t.ends,∃f∈t.ends,Way t.arcs p w o1 e.st/\Way t.arcs q w o2 f.st
def Qw (t:Fs):Prop:=∀w o1 o2,RV t w o1->RV t w o2->o1=o2
structure Held1 (t:Fs) (L:Int->Int->Option (List UInt8×List UInt8)):Prop where
 start:∀x∈t.starts,∀y∈t.starts,KM t x.st y.st->L x.st y.st=some (Dc (bl x.out) (bl y.out))
 ends:∀p q a b,L p q=some (a,b)->∀e∈t.ends,∀f∈t.ends,e.st=p->f.st=q->a++bl e.out=b++bl f.out
 step:∀p q a b,L p q=some (a,b)->∀x∈t.arcs,∀y∈t.arcs,x.fr=p->y.fr=q->∀c:UInt8,x.set.m c.toNat=true->y.set.m c.toNat=true->KM t x.to y.to->L x.to y.to=some (Dc (a++x.put c) (b++y.put c))
section
variable {t:Fs}
theorem KM.on {p q a b:Int} {w l1 l2:List UInt8} (h1:Way t.arcs p w l1 a) (h2:Way t.arcs q w l2 b) (h:KM t a b):KM t p q:=by obtain⟨v,j,k,e,c,f,d,g,i⟩:=h;exact⟨_,_,_,e,c,f,d,h1.app g,h2.app i⟩
theorem Held1.every {L:Int->Int->Option (List UInt8×List UInt8)} (H:Held1 t L):∀(n:Nat) {w:List UInt8} {p q:Int} {g i:List UInt8},w.length=n->Two t w p q g i->KM t p q->L p q=some (Dc g i)
 | 0,w,p,q,g,i,hw,h,hl=>by obtain rfl:=BD hw;obtain⟨⟨x,j,u1,k,rfl⟩,⟨y,l,u2,m,rfl⟩⟩:=h;obtain⟨rfl,rfl⟩:=Way.nil_iff.1 k;obtain⟨rfl,rfl⟩:=Way.nil_iff.1 m;rw[BC,BC];exact H.start x j y l hl
 | n+1,w,p,q,g,i,hw,h,hl=>by
  have a:w≠[]:=by rintro rfl;cases hw
  obtain⟨v,c,rfl⟩:∃v c,w=v++[c]:=⟨w.dropLast,w.getLast a,(Gm a).symm⟩
  obtain⟨⟨x,j,u1,k,rfl⟩,⟨y,l,u2,m,rfl⟩⟩:=h;obtain⟨G,B,C,z,b,o,d,r,rfl⟩:=Way.snoc_iff.1 k;obtain⟨I,D,E,A,e,s,f,u,rfl⟩:=Way.snoc_iff.1 m;subst o s r u;have F:=Held1.every H n (by simpa using hw) (⟨⟨x,j,B,C,rfl⟩,⟨y,l,D,E,rfl⟩⟩:Two t v z.fr A.fr _ _) (hl.on (JI b d) (JI e f));have:=H.step _ _ _ _ F z b A e rfl rfl c d f hl;rw[this,LO,Ac,Ac]
theorem Held1.one {L:Int->Int->Option (List UInt8×List UInt8)} (H:Held1 t L):Qw t:=by rintro w k l ⟨x,d,e,a,u1,g,rfl⟩ ⟨y,i,f,b,u2,j,rfl⟩;have h:=H.every w.length rfl (⟨⟨x,d,u1,g,rfl⟩,⟨y,i,u2,j,rfl⟩⟩:Two t w e.st f.st _ _) ⟨[],[],[],e,a,f,b,.nil _,.nil _⟩;obtain⟨c,h1,h2⟩:=IP (bl x.out++u1) (bl y.out++u2);have:=H.ends _ _ _ _ h e a f b rfl rfl;show bl x.out++u1++bl e.out=bl y.out++u2++bl f.out;generalize (Dc (bl x.out++u1) (bl y.out++u2)).1=m at *;generalize (Dc (bl x.out++u1) (bl y.out++u2)).2=n at *;rw[h1,h2,Ac,this,<-Ac]
theorem WG {w v a b l1 l2:List UInt8} {p q:Int} (h:Two t w p q a b) {e f:Tp} (c:e∈t.ends) (d:f∈t.ends) (h1:Way t.arcs p v l1 e.st) (h2:Way t.arcs q v l2 f.st):RV t (w++v) (a++l1++bl e.out)/\RV t (w++v) (b++l2++bl f.out):=by obtain⟨⟨x,g,u1,i,rfl⟩,⟨y,j,u2,k,rfl⟩⟩:=h;exact⟨⟨x,g,e,c,_,i.app h1,by rw[Ac (bl x.out)]⟩,⟨y,j,f,d,_,k.app h2,by rw[Ac (bl y.out)]⟩⟩
theorem Kg {p q:Int} {a b v l1 l2:List UInt8} (h:Ep t p q a b) {e f:Tp} (g:e∈t.ends) (i:f∈t.ends) (h1:Way t.arcs p v l1 e.st) (h2:Way t.arcs q v l2 f.st) (d:a++(l1++bl e.out)≠b++(l2++bl f.out)):KH t:=by obtain⟨w,j,l,k,m⟩:=h;obtain⟨c,g1,g2⟩:=IP j l;rw[m]at g1 g2;obtain⟨n,o⟩:=WG k g i h1 h2;refine⟨_,_,_,fun e=>d ?_,n,o⟩;rw[g1,g2]at e;simp only[Ac]at e;exact Da e
theorem RQ {p q:Int} {a b:List UInt8} (h:Ep t p q a b) (j:KM t p q) (k:a≠[]) (d:b≠[]):KH t:=by
 obtain⟨w,m,g,e,n,f,o,r,s⟩:=j;refine Kg h n o r s fun eq=>?_
 have c:=h.red.app k d (m++bl e.out) (g++bl f.out);rw[eq]at c;cases i:b++(g++bl f.out)with
 | nil=>exact d (List.append_eq_nil_iff.1 i).1
 | cons u l=>rw[i]at c;exact c rfl
theorem X0b {a b e d x y:List UInt8} (h1:a=[]\/b=[]) (h2:Red e d) (f:a++x=b++y) (c:e++x=d++y):a=e/\b=d:=by
 have h2:e=[]\/d=[]:=by
  cases e with
  | nil=>exact .inl rfl
  | cons u e=>
   cases d with
   | nil=>exact .inr rfl
   | cons v d=>
    rw[Cf,Cf]at c;injection c with c _
    exact absurd c h2
 have l1:=BY List.length f;have l2:=BY List.length c;simp only[AJ]at l1 l2;rcases h1 with rfl|rfl<;>rcases h2 with rfl|rfl
 .rw [Cy]at f c;have:b=d:=List.append_cancel_right (f.symm.trans c);exact⟨rfl,this⟩
 .simp only[Co]at l1 l2;have h3:b=[]:=BD (by omega);have h4:e=[]:=BD (by omega);exact⟨h4.symm,h3⟩
 .simp only[Co]at l1 l2;have h3:a=[]:=BD (by omega);have h4:d=[]:=BD (by omega);exact⟨h3,h4.symm⟩
 .rw [Cy]at f c;exact⟨List.append_cancel_right (f.trans c.symm),rfl⟩
theorem Ul {p q:Int} {a b c d:List UInt8} (h:Ep t p q a b) (i:Ep t p q c d) (u:KM t p q) (h1:a=[]\/b=[]) (g:(a,b)≠(c,d)):KH t:=by
 obtain⟨w,j,k,e,l,f,m,n,o⟩:=u;by_cases r:a++(j++bl e.out)=b++(k++bl f.out)
 .by_cases s:c++(j++bl e.out)=d++(k++bl f.out)
  .obtain ⟨g1,g2⟩:=X0b h1 i.red r s;exact absurd (by rw[g1,g2]) g
  .exact Kg i l m n o s
 .exact Kg h l m n o r
theorem OH {p q:Int} {a b:List UInt8} (h:Ep t p q a b) {e f:Tp} (d:e∈t.ends) (g:f∈t.ends) (i:e.st=p) (j:f.st=q) (c:a++bl e.out≠b++bl f.out):KH t:=by subst i j;exact Kg h d g (.nil _) (.nil _) (by simpa using c)
theorem TT (h:Qw t):¬KH t:=fun⟨w,b,c,a,h1,h2⟩=>a (h w b c h1 h2)
end
end
end Go.Proofs.YtcondkihpmmnnaaGreatDoor
