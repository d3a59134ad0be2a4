/- Lemmas, part 2 of 50. No condition. -/
import Derived.Test.YtcondkihpmmnnaaGreatDoorProg
import Derived.WalkKit
import Derived.WalkSpells
import Derived.WalkLawsBesides
import Derived.Deep.QuietTactic
import Derived.BigQuiet
import Derived.Maps.AppendAt
import Derived.Deep.AppendLies
import Derived.RegionTactic
import Derived.Deep.Draws
import Derived.Test.YtcondkihpmmnnaaGreatDoorTwin01
set_option maxRecDepth 100000
set_option maxHeartbeats 16000000
namespace Go.Proofs.YtcondkihpmmnnaaGreatDoor
section
open Go.RowKit Go.Sort
def C7 (v:Value) (w:World) (e:Ending) (w':World):Prop:=e=.returned v/\Below w.heap.size w w'
theorem below_drewN {B:Nat} {a w:World} (h:Below B a w) (n:Nat):Below B a (w.drewN n):=⟨h.os,h.tape,h.output,h.size,h.block⟩
theorem Lb {a b c:World} (h:Below a.heap.size a b) (k:Below b.heap.size b c):Below a.heap.size a c:=h.trans (k.mono h.size)
theorem DY {P:Program} {f:FuncId} {args:Array Value} {w:World} {d:Nat} {os:Array Obj} {v:Value} (h:Calls P f args (grow (redrawn w d) os) (C7 v (grow (redrawn w d) os))):Calls P f args (grow (redrawn w d) os) fun e a=>e=.returned v/\∃p:Regrown,a=grow (redrawn w p.d) p.os:=Calls.regrown_of (h.mono fun _ _ h=>h)
theorem Bu {w w':World} (h:∃p:Regrown,w'=grow (redrawn w p.d) p.os):Below w.heap.size w w':=by obtain⟨p,rfl⟩:=h;exact DN _ _ _
theorem Pu (a:ByteArray) (k:Nat) (h:k<a.size):a.data.toList[k]?=some a[k]:=by rw[AG (by simpa using h)];rfl
theorem u8_eq {a b:UInt8} (h:(a.toNat:Int)=b.toNat):a=b:=UInt8.toNat_inj.1 (by omega)
theorem Ic (a:Addr) (n:Nat):(a.add n).block=a.block:=by unfold Addr.add;split<;>rfl
theorem VD (a:Addr) (i j:Nat):(a.add i).add j=a.add (i+j):=by unfold Addr.add;by_cases hi:i=0<;>by_cases b:j=0<;>simp[hi,b,Dx]
def Reads (w:World) (B size:Nat) (A:Option Addr) (n:Nat) (xs:List Value):Prop:=xs.length=n*size/\(0<n->∃ad,A=some ad/\ad.block<B/\∀j u,xs[j]?=some u->w.cell? (ad.add j)=some u)
section
variable {w w':World} {B B' size n:Nat} {A:Option Addr} {xs:List Value}
theorem Reads.none_:Reads w B size A 0 []:=⟨by simp,fun h=>absurd h (by omega)⟩
theorem Reads.at_ {k:Nat} (h:Reads w B 1 A n xs) (f:k<n):∃a u,A=some a/\a.block<B/\xs[k]?=some u/\w.cell? (a.add k)=some u:=by
 obtain⟨a,e,c,d⟩:=h.2 (by omega);have b:k<xs.length:=by have:=h.1;omega
 exact⟨a,xs[k],e,c,AG b,d k _ (AG b)⟩
theorem Reads.keep (h:Reads w B size A n xs) (b:∀p:Addr,p.block<B->w'.cell? p=w.cell? p):Reads w' B size A n xs:=⟨h.1,fun c=>by obtain⟨d,e,a,f⟩:=h.2 c;exact⟨d,e,a,fun j u g=>(b _ (by rw[Ic];exact a)).trans (f j u g)⟩⟩
theorem Reads.more (h:Reads w B size A n xs) (d:B<=B'):Reads w B' size A n xs:=⟨h.1,fun a=>by obtain⟨b,e,f,c⟩:=h.2 a;exact⟨b,e,by omega,c⟩⟩
theorem Reads.below (h:Reads w B size A n xs) (a:Below B w w'):Reads w' B size A n xs:=h.keep fun _ b=>a.cell b
theorem Reads.drew (h:Reads w B size A n xs):Reads w.drew B size A n xs:=h
theorem Reads.drewN (h:Reads w B size A n xs) (k:Nat):Reads (w.drewN k) B size A n xs:=h
theorem Reads.alloc (h:Reads w B size A n xs) (a:B<=w.heap.size) (o:Obj):Reads (w.alloc o) B size A n xs:=h.keep fun p b=>World.cell?_alloc_lt w o p (by omega)
theorem Reads.setCell (h:Reads w B size A n xs) {p:Addr} (a:B<=p.block) (u:Value):Reads (w.setCell p u) B size A n xs:=h.keep fun q b=>Ev w p q u (fun e=>by subst e;omega)
theorem Reads.grown (h:Reads w B size A n xs) {row:Option Nat} (a:w.grownBy w' row) (c:B<=w.heap.size) (b:∀g,row=some g->B<=g):Reads w' B size A n xs:=h.keep fun p d=>World.cell?_of_block (a.block p.block (by omega) (fun e=>by have:=b _ e.symm;omega))
theorem Reads.cut (h:Reads w B size A n xs) {k cap:Nat} (e:k<=n) (f:n<=cap) :Reads w B size (if cap=k then A else A.map (·.add (k*size))) (n-k) (xs.drop (k*size)):=by refine⟨by rw[List.length_drop,h.1,Nat.sub_mul],fun g=>?_⟩;obtain⟨b,rfl,c,a⟩:=h.2 (by omega);rw[AP (by omega)];refine⟨b.add (k*size),rfl,by rw[Ic];exact c,fun j u d=>?_⟩;rw[VD];exact a _ u (by rw[<-d,Dt])
theorem Reads.of_own {base:Nat} {e:TypeId} {c:Nat} (h:w.ownsRow base e size (.slice A n c) n xs):Reads w w.heap.size size A n xs:=by
 refine⟨h.1,fun b=>?_⟩;obtain⟨g,cap,d,_,a⟩:=h.form b;have f:A=some ⟨g,0,none⟩:=by injection d
 subst f;exact⟨_,rfl,a,h.cells (g:=g) rfl⟩
end
def BL (w:World) (g:Nat) (t:TypeId) (cs:Array Value):Prop:=w.heap[g]?=some (.cells cs t (0,0))
section
variable {w w':World} {g:Nat} {t:TypeId} {cs:Array Value}
theorem BL.lt (h:BL w g t cs):g<w.heap.size:=by
 rcases BF g w.heap.size with a|b
 .exact a
 .unfold BL at h;rw[Cn b]at h;cases h
theorem BL.cell (h:BL w g t cs) (i:Nat):w.cell? ⟨g,i,none⟩=cs[i]?:=cell_of_row w g i cs t (0,0) h
theorem BL.frozen (h:BL w g t cs) (i:Nat):w.frozen? ⟨g,i,none⟩=false:=by unfold BL at h;simp[World.frozen?,h]
theorem BL.new (w:World) (t:TypeId) (cs:Array Value):BL (w.alloc (.cells cs t)) w.heap.size t cs:=heap_alloc_new w _
theorem BL.drew (h:BL w g t cs):BL w.drew g t cs:=h
theorem BL.drewN (h:BL w g t cs) (n:Nat):BL (w.drewN n) g t cs:=h
theorem BL.alloc (h:BL w g t cs) (o:Obj):BL (w.alloc o) g t cs:=(FW w o g h.lt).trans h
theorem BL.set_ (h:BL w g t cs) (i:Nat) (u:Value):BL (w.setCell ⟨g,i,none⟩ u) g t (cs.setIfInBounds i u):=by unfold BL at h ⊢;simp[World.setCell,Array.getElem?_modify,h]
theorem BL.far (h:BL w g t cs) {p:Addr} (a:g≠p.block) (u:Value):BL (w.setCell p u) g t cs:=(Am w p u g a).trans h
theorem BL.below {B:Nat} (h:BL w g t cs) (a:Below B w w') (b:g<B):BL w' g t cs:=(a.block g b).trans h
theorem BL.grown {row:Option Nat} (h:BL w g t cs) (a:w.grownBy w' row) (b:some g≠row):BL w' g t cs:=(a.block g h.lt b).trans h
theorem BL.ne_ {d:Nat} {e:TypeId} {b:Array Value} (h:BL w g t cs) (a:BL w d e b) (c:t≠e):g≠d:=by
 rintro rfl;unfold BL at h a;rw[h]at a;injection a with a
 injection a with _ ht
 exact c ht
theorem FI {base:Nat} {e:TypeId} {size n:Nat} {v:Value} {xs:List Value} (h:w.ownsRow base e size v n xs) (b:BL w g t cs) (a:e≠t):v.ownBlock≠some g:=by
 rcases h.2 with⟨rfl,_⟩|⟨c,cap,d,rfl,_,f,_⟩
 .simp [Value.ownBlock]
 .intro i
  have:c=g:=by simpa[Value.ownBlock]using i
  subst this;exact BL.ne_ (t:=e) f b a rfl
end
section
variable {P:Program} (w:World)
theorem Nu (base:Nat) (t f e:TypeId) (i:TypeInfo) (size:Nat) (d:P.underlying t=some (.slice e)) (hi:P.info? e=some i) (v:Value) (n:Nat) (xs:List Value) (a:w.ownsRow base e size v n xs) (c:Nat):(Builtin.append_ #[t,t] f #[v,.slice none 0 c]).run P w=.ok v w:=by
 rcases a.2 with⟨rfl,rfl⟩|⟨g,cap,j,rfl,_,_,b,_⟩
 .simp [Builtin.append_,run_underlying d,sizeOf,typeInfo,hi,Builtin.lenOf,Builtin.firstCells]
 .simp [Builtin.append_,run_underlying d,sizeOf,typeInfo,hi,Builtin.lenOf,Builtin.firstCells,b,storeCells]
theorem MF (base:Nat) (t o e:TypeId) (i:TypeInfo) (z:Value) (size bytes:Nat) (y:P.underlying t=some (.slice e)) (hi:P.info? e=some i) (D:i.zero=some z) (f:i.size=size) (p:i.bytes=bytes) (q:z.cells.size=size) (r:0<size) (v:Value) (n:Nat) (xs:List Value) (a:w.ownsRow base e size v n xs) (B:Nat) (A:Option Addr) (m c:Nat) (news:List Value) (k:Reads w B size A m news) (h1:∀u∈news,u.oneCell'=true) (h63:n+m<=maxLen) (b:(n+m)*bytes<=140737488355328) (g:base<=w.heap.size) :∃v' w',(Builtin.append_ #[t,t] o #[v,.slice A m c]).run P w=.ok v' w'/\w'.ownsRow base e size v' (n+m) (xs++news)/\w.grownBy w' v.ownBlock /\(v'.ownBlock=v.ownBlock\/v'.ownBlock=some w.heap.size):=by
 rcases A with _|s
 .have E:m=0:=by
    rcases B7 m with h0|h0
    .exact h0
    .obtain ⟨s,h,_⟩:=k.2 h0;cases h
  subst E;have x:news=[]:=BD (by simpa using k.1);subst x;exact⟨v,w,Nu w base t o e i size y hi v n xs a c,by simpa using a,World.grownBy.refl w _,.inl rfl⟩
 .have d:∀j u,news[j]?=some u->w.cell? (s.add j)=some u:=by
    intro j u C;rcases B7 m with h0|h0
    .subst h0;have x:news=[]:=BD (by simpa using k.1);subst x;simp at C
    .obtain ⟨F,h,_,G⟩:=k.2 h0
     injection h with h
     subst h;exact G j u C
  obtain⟨v',w',l,h2,h3,_,h5⟩:=run_append_own_at (P:=P) w base t o e i z size bytes y hi D f p q r v n xs a s m c news k.1 d h1 h63 b g;exact⟨v',w',l,h2,h3,h5⟩
theorem DL {o:Oper} {a:Act} {K:Act->World->Prop} {Q:Exit->Act->World->Prop} (s x:Operand) (t:TypeId) (q:o.op=.call { callee:=.builtin .append,args:=#[s,x],argTypes:=#[t,t] }) (base:Nat) (e:TypeId) (i:TypeInfo) (z:Value) (size bytes:Nat) (r:P.underlying t=some (.slice e)) (hi:P.info? e=some i) (y:i.zero=some z) (d:i.size=size) (k:i.bytes=bytes) (l:z.cells.size=size) (p:0<size) (v:Value) (n:Nat) (xs:List Value) (C:a.eval s=v) (g:w.ownsRow base e size v n xs) (B:Nat) (A:Option Addr) (m c:Nat) (news:List Value) (D:a.eval x=.slice A m c) (E:Reads w B size A m news) (h1:∀u∈news,u.oneCell'=true) (h63:n+m<=maxLen) (b:(n+m)*bytes<=140737488355328) (f:base<=w.heap.size) (h:∀v' w',w'.ownsRow base e size v' (n+m) (xs++news)->w.grownBy w' v.ownBlock->(v'.ownBlock=v.ownBlock\/v'.ownBlock=some w.heap.size)->K (a.put o.dst v') w'):o.wp P a w K Q:=by obtain⟨v',w',j,h2,h3,h4⟩:=MF (P:=P) w base t o.type e i z size bytes r hi y d k l p v n xs g B A m c news E h1 h63 b f;unfold Oper.wp execOp;simp only[q,resolve,invoke,builtin,Fw,Sem.run_pure,Ee,FX,DO,EG,C,D,j];exact h v' w' h2 h3 h4
theorem Ba {ops:Array Oper} {rest:List Oper} {o:Oper} {a:Act} {Q:Exit->Act->World->Prop} (j:o.guard=none) (s x:Operand) (t:TypeId) (q:o.op=.call { callee:=.builtin .append,args:=#[s,x],argTypes:=#[t,t] }) (base:Nat) (e:TypeId) (i:TypeInfo) (z:Value) (size bytes:Nat) (r:P.underlying t=some (.slice e)) (hi:P.info? e=some i) (y:i.zero=some z) (d:i.size=size) (k:i.bytes=bytes) (l:z.cells.size=size) (p:0<size) (v:Value) (n:Nat) (xs:List Value) (C:a.eval s=v) (g:w.ownsRow base e size v n xs) (B:Nat) (A:Option Addr) (m c:Nat) (news:List Value) (D:a.eval x=.slice A m c) (E:Reads w B size A m news) (h1:∀u∈news,u.oneCell'=true) (h63:n+m<=maxLen) (b:(n+m)*bytes<=140737488355328) (f:base<=w.heap.size) (h:∀v' w',w'.ownsRow base e size v' (n+m) (xs++news)->w.grownBy w' v.ownBlock->(v'.ownBlock=v.ownBlock\/v'.ownBlock=some w.heap.size)->wpList P ops Q rest (a.put o.dst v') w'):wpList P ops Q (o::rest) a w:=wpList_plain j fun _ F=>DL w s x t q base e i z size bytes r hi y d k l p v n xs C g B A m c news D E h1 h63 b f fun v' w' h2 h3 h4=>F _ _ (h v' w' h2 h3 h4)
end
end
section
open Go.RowKit Go.Sort Go.Maps Go.WideMaps
theorem OX {w:World} {a:Addr} {v:Value} (h:w.cell? a=some v):a=⟨a.block,a.off,none⟩:=by
 obtain⟨b,o,s⟩:=a;cases s with
 | none=>rfl
 | some x=>unfold World.cell? at h;simp at h;split at h<;>cases h
theorem Gq (g o j:Nat):(⟨g,o,none⟩:Addr).add j=⟨g,o+j,none⟩:=by
 unfold Addr.add;split
 .subst_vars;rfl
 .rfl
theorem C6 {w:World} {B n:Nat} {A:Option Addr} {α:Type} {enc:α->Value} {L:List α} {d:α} (c:Reads w B 1 A n (L.map enc)) (k:Nat) (p:k<n) :∃g o,A=some ⟨g,o,none⟩/\g<B/\w.cell? ⟨g,o+k,none⟩=some (enc (L.getD k d)):=by
 have j:=c.1;simp at j;have a:k<L.length:=by omega
 obtain⟨b,e,l,f⟩:=c.2 (by omega);have h0:=f 0 _ (show(L.map enc)[0]?=some (enc (L[0]'(by omega)))by simp[show 0<L.length by omega]);have h00:b.add 0=b:=by simp[Addr.add]
 rw[h00]at h0;have es:=OX h0;have i:=f k _ (show(L.map enc)[k]?=some (enc L[k])by simp[a]);rw[es,Gq]at i;have m:L.getD k d=L[k]:=by rw[AC,AG a];rfl
 rw[m];exact⟨b.block,b.off,by rw[e,<-es],l,i⟩
def JJ (w:World) (B:Nat) (A:Option Addr) (n:Nat) (rows:List (List Value)):Prop:=∃hs:List (Option Addr×Nat),hs.length=rows.length /\Reads w B 1 A n ((List.zip hs rows).map fun x=>Value.slice x.1.1 x.2.length x.1.2) /\∀x∈List.zip hs rows,Reads w B 1 x.1.1 x.2.length x.2/\x.2.length<=x.1.2/\x.1.2<=maxLen
theorem JJ.len {w:World} {B n:Nat} {A:Option Addr} {rows:List (List Value)} (h:JJ w B A n rows):rows.length=n:=by obtain⟨b,c,a,_⟩:=h;have:=a.1;simp at this;omega
theorem JJ.keep {w w':World} {B n:Nat} {A:Option Addr} {rows:List (List Value)} (h:JJ w B A n rows) (a:∀p:Addr,p.block<B->w'.cell? p=w.cell? p):JJ w' B A n rows:=by obtain⟨d,e,f,b⟩:=h;exact⟨d,e,f.keep a,fun x c=>⟨(b x c).1.keep a,(b x c).2⟩⟩
theorem JJ.below {w w':World} {B n:Nat} {A:Option Addr} {rows:List (List Value)} (h:JJ w B A n rows) (a:Below B w w'):JJ w' B A n rows:=h.keep fun _ b=>a.cell b
theorem JJ.more {w:World} {B B' n:Nat} {A:Option Addr} {rows:List (List Value)} (h:JJ w B A n rows) (a:B<=B'):JJ w B' A n rows:=by obtain⟨d,e,f,b⟩:=h;exact⟨d,e,f.more a,fun x c=>⟨(b x c).1.more a,(b x c).2⟩⟩
theorem JJ.at_ {w:World} {B n:Nat} {A:Option Addr} {rows:List (List Value)} (h:JJ w B A n rows) (k:Nat) (l:k<n) :∃g o i c,A=some ⟨g,o,none⟩/\g<B/\w.cell? ⟨g,o+k,none⟩=some (.slice i (rows.getD k []).length c)/\Reads w B 1 i (rows.getD k []).length (rows.getD k [])/\(rows.getD k []).length<=c/\c<=maxLen:=by
 have s:=h.len;obtain⟨a,t,m,b⟩:=h;obtain⟨g,o,e,p,j⟩:=C6 (d:=((none,0),[])) m k l;have q:(List.zip a rows).getD k ((none,0),[])=(a[k]'(by omega),rows[k]'(by omega)):=by rw[AC,AG (by simp;omega)];simp
 rw[q]at j;have r:rows.getD k []=rows[k]'(by omega):=by rw[AC,AG (by omega)];rfl
 have f:(a[k]'(by omega),rows[k]'(by omega))∈List.zip a rows:=by rw[Bp];exact⟨k,by simp;omega,by simp⟩
 rw[r];exact⟨g,o,_,_,e,p,j,(b _ f).1,(b _ f).2.1,(b _ f).2.2⟩
structure SeqM where
 front:ByteArray
 next:List (List Int)
 outs:List (List ByteArray)
 ends:List Bool
 tail:List ByteArray
def GC (w:World) (B:Nat) (q:SeqM) (v:Value):Prop:=∃A1 c1 A2 c2 A3 c3 A4 c4,v=.agg #[.string q.front,.slice A1 q.next.length c1,.slice A2 q.outs.length c2,.slice A3 q.ends.length c3,.slice A4 q.tail.length c4] /\q.front.size<=maxLen/\q.next.length<=c1/\q.outs.length<=c2/\q.ends.length<=c3/\q.tail.length<=c4/\c1<=maxLen/\c2<=maxLen/\c3<=maxLen/\c4<=maxLen /\JJ w B A1 q.next.length (q.next.map fun r=>r.map (Value.int .i64))/\(∀r∈q.next,∀z∈r,-9223372036854775808<=z/\z<=9223372036854775807) /\JJ w B A2 q.outs.length (q.outs.map fun r=>r.map Value.string)/\(∀r∈q.outs,∀s∈r,s.size<=maxLen) /\Reads w B 1 A3 q.ends.length (q.ends.map Value.bool) /\Reads w B 1 A4 q.tail.length (q.tail.map Value.string)/\(∀s∈q.tail,s.size<=maxLen)
def Nd (z:Int) (o:ByteArray) (n:Nat):Bool:=decide (-1<=z) && decide (z<(n:Int)) && decide (o.size<=4096) && (decide (z≠-1) || decide (o.size=0))
def L9 (Z:List Int) (O:List ByteArray) (n:Nat):Bool:=decide (Z.length=256) && decide (O.length=256) && (List.range 256).all fun b=>Nd (Z.getD b 0) (O.getD b ByteArray.empty) n
theorem Lx {p:Nat->Bool} {n k:Nat} (a:k<n) (h:p k=false):(List.range n).all p=false:=by rw[List.all_eq_false];exact⟨k,BE.2 a,by simp[h]⟩
end
end Go.Proofs.YtcondkihpmmnnaaGreatDoor
