/- Lemmas, part 37 of 50. No condition. -/
import Derived.StillTailTactics
import Derived.Deep.RegionWith
import Derived.Test.YtcondkihpmmnnaaGreatDoorTwin35
set_option maxRecDepth 100000
set_option maxHeartbeats 16000000
namespace Go.Proofs.YtcondkihpmmnnaaGreatDoor
section
open Go.RowKit Go.Sort
theorem V5 (n:Nat) (w:World) (b:n<64) :Calls Tryz.prog 121 #[.int .i64 n] w fun e w'=>e=.returned (.int .u64 ((pw n:Nat):Int))/\w'=w:=by
 go_enter Tryz.func121,Tryz.ntmps121;go_wp2
 go_loop [3,4] (fun p i=>∃k:Nat,k<=n/\i=.int .i64 k/\p=.int .u64 ((pw k:Nat):Int)) (fun _ i=>n-(intOf i).toNat)
 case atStart=>exact⟨0,by omega,rfl,rfl⟩
 case round=>
  obtain⟨k,c,rfl,rfl⟩:=hrel;by_cases a:k<n
  .have E:=AB (X0U k (by omega))
   go_wp2
   go_round
   case rel=>exact⟨k+1,by omega,by go_num,by rw[E.out]⟩
   case measure=>simp[intOf];omega
  .have:k=n:=by omega
   subst this;go_wp2;go_ret;exact⟨rfl,rfl⟩
theorem YH (n:Nat) (w:World) (a:n<64) :Calls Tryz.prog 121 #[.int .i64 n] w (C7 (.int .u64 ((pw n:Nat):Int)) w):=(V5 n w a).mono fun _ _ ⟨b,c⟩=>⟨b,c▸AH _ _⟩
theorem Z0 (m:Nat->Bool) (b:Nat) (w:World) (i:b<256) :Calls Tryz.prog 100 #[.agg #[.int .u64 ((word m 0:Nat):Int),.int .u64 ((word m 1:Nat):Int),.int .u64 ((word m 2:Nat):Int),.int .u64 ((word m 3:Nat):Int)],.int .i64 b] w (C7 (.bool (m b)) w):=by
 have d:=AF (T7 w m 58 (b / 64) (by omega));have j:=X1O (b%64);have e:((pw (b%64):Nat):Int)≠0:=by omega
 have f:(((pw (b%64):Nat):Int)==0)=false:=by rw[El];omega
 have g:=YH (b%64);go_enter Tryz.func100,Tryz.ntmps100;go_wp2;refine Au (by kernel_rfl) (by kernel_rfl) ?_
 repeat (go_big_quiet_step ((go_at_call 121;exact DY (g _ (by omega)))))
 refine Ah ?_;intro k a;have c:=Bu a;clear a d;go_wp2;go_ret;refine⟨?_,Lb ((AH _ _).alloc (AD _) _) c⟩;simp[VH]
theorem V6 (m:Nat->Bool) (w:World) :Calls Tryz.prog 66 #[.agg #[.int .u64 ((word m 0:Nat):Int),.int .u64 ((word m 1:Nat):Int),.int .u64 ((word m 2:Nat):Int),.int .u64 ((word m 3:Nat):Int)]] w fun e W'=>∃A n c,e=.returned (.slice A n c)/\n<=256/\Below w.heap.size w W':=by
 obtain⟨i0,E,F,G,H⟩:=BK M5;have s:=Pa w m 58;go_enter Tryz.func66,Tryz.ntmps66;go_wp2;go_loopw [3,4] (fun v i wr=>∃(k:Nat) (l:List Value),k<=256/\i=.int .i64 k/\wr.ownsRow w.heap.size 5 1 v l.length l/\l.length<=k/\BL wr w.heap.size 58 (Es m)/\Below w.heap.size w wr) (fun _ i _=>256-(intOf i).toNat)
 case atStart=>exact⟨0,[],by omega,rfl,Bc _ _ _ _,AD _,s,(AH _ _).alloc (AD _) _⟩
 case round=>
  clear s;obtain⟨k,l,O,rfl,f,I,g,J⟩:=hrel;obtain⟨P,Q,rfl,V,X,K⟩:=BH f;by_cases L:k<256
  .obtain ⟨Y,Z,c2,c3⟩:=g.cells4
   have R:=AB (fun W=>Z0 m k W L);have t:=AB f;have B:=AB (AI g J);clear f g J K;generalize m k=mk at *
   go_wp2_with fail
   refine(R.out _).mono ?_;clear R Y Z c2 c3;rintro e x ⟨rfl,p⟩;have a:=BQ t.out p;have d:=B.out.1.below p B.out.1.lt;have y:=B.out.2.trans (p.mono B.out.2.size);rcases mk with _|_
   .have r:=AB (AI a (AI d y))
    clear a d y;go_wp2;go_roundw
    case rel=>exact⟨k+1,l,by omega,by go_num,r.out.1,by omega,r.out.2.1,r.out.2.2⟩
    case measure=>simp[intOf];omega
   .have M:=Bg x [.int .u8 (k:Int)] 5 1 1 rfl
    have C:=(AH x.heap.size x).alloc (AD _) (.cells #[.int .u8 (k:Int)] 5);have b:=BQ a C;have j:=d.below C d.lt;have D:=y.trans (C.mono y.size);have z:∀u∈[Value.int .u8 (k:Int)],u.oneCell'=true:=fun u S=>by rw[AM]at S;subst S;rfl
    have h63:l.length+1<=maxLen:=by unfold maxLen;omega
    have N:(l.length+1)*1<=140737488355328:=by omega
    have g:=D.size;have r:=AB (fun(W:World) (v':Value) (T:(x.alloc (.cells #[.int .u8 (k:Int)] 5)).grownBy W (Value.slice P l.length Q).ownBlock)=>AI (BM j T (AV b j (by decide))) (D.grown T D.size (fun k O=>(own_lt b k O).1)));have aa:=AB b;clear a d y C j D
    go_wp2_with (at_builtin;refine Ba _ rfl _ _ 81 rfl w.heap.size 5 i0 _ 1 1 Tryz.underlying81 E F G H rfl (by decide) _ _ _ rfl b _ (some ⟨x.heap.size,0,none⟩) 1 1 [.int .u8 (k:Int)] rfl M z h63 N g ?_;intro v' w8 q o U)
    go_roundw
    case rel=>exact⟨k+1,l++[.int .u8 (k:Int)],by omega,by go_num,by rw[AJ];exact q,by simp;omega,(r.out _ v' o).1,(r.out _ v' o).2⟩
    case measure=>simp[intOf];omega
  .obtain rfl:k=256:=by omega
   clear f g;go_wp2;exact AQ (v:=.slice P l.length Q) (by simp[results,Tryz.results66,go_sem]) rfl ⟨_,_,_,rfl,I,J⟩
end
section
def eB:ByteArray:=⟨#[]⟩
def Tj:ByteArray:=⟨#[120,121]⟩
def aS:St:=St.ofM (Gy [97])
def TK:Fs:=⟨2,[⟨0,eB⟩],[⟨1,eB⟩],[⟨0,1,aS,Tj,false⟩]⟩
theorem aS_m {c:Nat} (h:c<256):aS.m c=(c==97):=one_m 97 c h
theorem Qt {α:Type} [DecidableEq α] {x:α}:∀l:List α,l≠[]->(∀y∈l,y=x)->DX l=[x]
 | [],h,_=>absurd rfl h
 | [a],_,h=>by rw[h a BR];rfl
 | a::b::l,_,h=>by have c:=h a BR;have d:=h b (CB _ BR);unfold DX;rw[AU (c.trans d.symm)];exact Qt (b::l) (by simp) fun y e=>h y (CB _ e)
theorem Xy {x:Tp} {l:List Tp} (h0:l≠[]) (h:∀y∈l,y=x):Gf l=[x]:=by
 unfold Gf;refine Qt _ ?_ fun y a=>h y ((Gn y l).1 a)
 obtain⟨y,a⟩:=De _ h0;exact Cu ((Gn y l).2 a)
theorem X1p (x:ByteArray):x.extract x.size x.size=eB:=by apply D_;rw[Nf,<-CK,List.drop_length];rfl
theorem PE {x:Tp} {l:List Tp} (h0:l≠[]) (h:∀y∈l,y=x) (d:x.out.size<=4096):EU l=.ok (x.out,[⟨x.st,eB⟩]):=by
 unfold EU;rw[Xy h0 h];have b:EZ ([x].map Tp.out)=x.out:=rfl;have a:Ie x.out.size x=⟨x.st,eB⟩:=by unfold Ie;rw[X1p]
 have c:It [x]=false:=rfl;simp only[b,c];rw[AP (by decide),AP (by omega),AP]
 .simp [a]
 .simp only[List.any_cons,List.any_nil,Bool.or_false,a];decide
section
variable {u:Fs} {a b:Int}
structure One (u:Fs) (a b:Int):Prop where
 ne:a≠b
 s0:u.starts≠[]
 s:∀y∈u.starts,y=⟨a,eB⟩
 e0:u.ends≠[]
 e:∀y∈u.ends,y=⟨b,eB⟩
 c0:u.arcs≠[]
 c:∀y∈u.arcs,y=⟨a,b,aS,Tj,false⟩
theorem X1W {f:Int->Int} (h:Trims TK u f):One u (f 0) (f 1):=by
 have a:Way TK.arcs 0 [97] (Ar.put ⟨0,1,aS,Tj,false⟩ 97++[]) 1:=.cons ⟨0,1,aS,Tj,false⟩ BR rfl (by rw[aS_m (by decide)];rfl) (.nil 1);have d:F6 TK.n 0:=⟨by decide,by decide⟩;have g:F6 TK.n 1:=⟨by decide,by decide⟩;have u0:Useful TK 0:=⟨d,⟨_,BR,_,_,.nil 0⟩,⟨_,BR,_,_,a⟩⟩;have u1:Useful TK 1:=⟨g,⟨_,BR,_,_,a⟩,⟨_,BR,_,_,.nil 1⟩⟩;have i:=(h.use 0 d).2 u0;have j:=(h.use 1 g).2 u1;refine⟨fun e=>absurd (h.inj 0 1 d g i e) (by decide),?_,fun y b=>?_,?_,fun y b=>?_,?_,fun y b=>?_⟩
 .exact Cu ((h.starts ⟨f 0,eB⟩).2 ⟨⟨0,eB⟩,BR,i,rfl⟩)
 .obtain ⟨x,c,_,rfl⟩:=(h.starts y).1 b;obtain rfl:=AM.1 c;rfl
 .exact Cu ((h.ends ⟨f 1,eB⟩).2 ⟨⟨1,eB⟩,BR,j,rfl⟩)
 .obtain ⟨x,c,_,rfl⟩:=(h.ends y).1 b;obtain rfl:=AM.1 c;rfl
 .exact Cu ((h.arcs ⟨f 0,f 1,aS,Tj,false⟩).2 ⟨⟨0,1,aS,Tj,false⟩,BR,i,j,rfl⟩)
 .obtain ⟨x,c,_,_,rfl⟩:=(h.arcs y).1 b;obtain rfl:=AM.1 c;rfl
section
variable (h:One u a b)
include h
theorem One.behind (c:Nat) (d:c<256) (e:c≠97):Db u.arcs [⟨a,eB⟩] c=[]:=by rw[GR];intro y f;obtain⟨x,_,z,g,_,b,_⟩:=(E8 y).1 f;rw[h.c z g,aS_m d,DF]at b;exact e b
theorem One.behindA:Db u.arcs [⟨a,eB⟩] 97≠[]/\∀y∈Db u.arcs [⟨a,eB⟩] 97,y=⟨b,Tj⟩:=by
 have d:eB++(Ar.putB ⟨a,b,aS,Tj,false⟩ 97)=Tj:=by apply D_;unfold Ar.putB;rw[DW,DW];rfl
 constructor
 .obtain ⟨z,e⟩:=De _ h.c0;exact Cu ((E8 ⟨b,Tj⟩).2 ⟨⟨a,eB⟩,AM.2 rfl,z,e,by rw[h.c z e],by rw[h.c z e,aS_m (by decide)];rfl,by rw[h.c z e,d]⟩)
 .intro y f;obtain⟨x,g,z,e,_,_,rfl⟩:=(E8 y).1 f;rw[AM.1 g,h.c z e,d]
theorem One.behindB (c:Nat):Db u.arcs [⟨b,eB⟩] c=[]:=by rw[GR];intro y d;obtain⟨x,e,z,f,a,_⟩:=(E8 y).1 d;rw[AM.1 e,h.c z f]at a;exact h.ne a
theorem One.bytesB (rows:List (List Tp)):∀k,Et u.arcs 5 [⟨b,eB⟩] rows k=.ok (rows,List.replicate k (-1),List.replicate k ByteArray.empty)
 | 0=>rfl
 | k+1=>by unfold Et;rw[One.bytesB rows k];simp only;unfold MH;rw[h.behindB k];simp only[List.replicate_succ']
theorem One.bytesA:∀k,k<=97->Et u.arcs 5 [⟨a,eB⟩] [[⟨a,eB⟩]] k=.ok ([[⟨a,eB⟩]],List.replicate k (-1),List.replicate k ByteArray.empty)
 | 0,_=>rfl
 | k+1,hk=>by unfold Et;rw[One.bytesA k (by omega)];simp only;unfold MH;rw[h.behind k (by omega) (by omega)];simp only[List.replicate_succ']
def PF (k:Nat):List Int:=List.replicate 97 (-1)++[1]++List.replicate k (-1)
def Mh (k:Nat):List ByteArray:=List.replicate 97 ByteArray.empty++[Tj]++List.replicate k ByteArray.empty
theorem One.bytesA2:∀k,k<=158->Et u.arcs 5 [⟨a,eB⟩] [[⟨a,eB⟩]] (98+k)=.ok ([[⟨a,eB⟩],[⟨b,eB⟩]],PF k,Mh k)
 | 0,_=>by
  show Et u.arcs 5 [⟨a,eB⟩] [[⟨a,eB⟩]] (97+1)=_;unfold Et;rw[h.bytesA 97 (AD _)];simp only;unfold MH;obtain⟨h1,h2⟩:=h.behindA;have c:=PE h1 h2 (show Tj.size<=4096 by decide);rcases g:Db u.arcs [⟨a,eB⟩] 97 with _|⟨x,r⟩
  .exact absurd g h1
  .rw [g]at c
   simp only[c];have d:¬((⟨a,eB⟩:Tp)=⟨b,eB⟩):=fun e=>h.ne (Tp.mk.inj e).1
   have f:FO 5 [[⟨a,eB⟩]] [⟨b,eB⟩]=.ok (1,[[⟨a,eB⟩],[⟨b,eB⟩]]):=by
    unfold FO
    have:List.idxOf? [(⟨b,eB⟩:Tp)] [[⟨a,eB⟩]]=none:=by
     rw[List.idxOf?_eq_none_iff];intro e;rw[AM]at e;injection e with e
     exact d e.symm
    rw[this];rfl
   rw[f];unfold PF Mh;rw[List.replicate_zero,List.replicate_zero,BC,BC];simp only[show((1:Nat):Int)=1 from rfl]
 | k+1,hk=>by show Et u.arcs 5 [⟨a,eB⟩] [[⟨a,eB⟩]] (98+k+1)=_;unfold Et;rw[One.bytesA2 k (by omega)];simp only;unfold MH;rw[h.behind (98+k) (by omega) (by omega)];simp only[PF,Mh,List.replicate_succ',Ac]
theorem One.tailA:JK u.ends [⟨a,eB⟩]=.ok (false,ByteArray.empty):=by
 unfold JK;have:([(⟨a,eB⟩:Tp)].flatMap fun x=>(u.ends.filter fun z=>z.st==x.st).map fun z=>x.out++z.out)=[]:=by rw[GR];intro y b;simp only[Ei,D8,BC,Bd,BV,DF]at b;obtain⟨z,⟨c,e⟩,_⟩:=b;rw[h.e z c]at e;exact h.ne e.symm
 rw[this]
theorem One.tailB:JK u.ends [⟨b,eB⟩]=.ok (true,eB):=by
 unfold JK;have c:∀y∈([(⟨b,eB⟩:Tp)].flatMap fun x=>(u.ends.filter fun z=>z.st==x.st).map fun z=>x.out++z.out),y=eB:=by intro y i;simp only[Ei,D8,BC,Bd,BV,DF]at i;obtain⟨z,⟨d,_⟩,rfl⟩:=i;rw[h.e z d];apply D_;rw[DW];rfl
 have f:([(⟨b,eB⟩:Tp)].flatMap fun x=>(u.ends.filter fun z=>z.st==x.st).map fun z=>x.out++z.out)≠[]:=by obtain⟨z,d⟩:=De _ h.e0;refine Cu (a:=eB++z.out) ?_;simp only[Ei,D8,BC,Bd,BV,DF];exact⟨z,⟨d,by rw[h.e z d]⟩,rfl⟩
 rcases g:([(⟨b,eB⟩:Tp)].flatMap fun x=>(u.ends.filter fun z=>z.st==x.st).map fun z=>x.out++z.out)with _|⟨s,r⟩
 .exact absurd g f
 .rw [g]at c
  have j:=c s BR;subst j;rw[g];simp only;rw[AU,AP (by decide)];rw[CS];intro t k;rw[c t (CB _ k)]
  first|exact beq_self_eq_true _|rfl|decide
def q1:SeqM:=⟨eB,[PF 158,List.replicate 256 (-1)],[Mh 158,List.replicate 256 ByteArray.empty],[false,true],[ByteArray.empty,eB]⟩
theorem One.all:IC u 5=.ok q1:=by
 have c:=PE h.s0 h.s (show eB.size<=4096 by decide);unfold IC;rcases f:u.starts with _|⟨x,r⟩
 .exact absurd f h.s0
 .rw [f]at c
  simp only[c];have e:FO 5 [] [(⟨a,eB⟩:Tp)]=.ok (0,[[⟨a,eB⟩]]):=rfl;rw[e];have d0:Tg u 5 ⟨[[⟨a,eB⟩]],[],[],[],[]⟩ 0=.ok ⟨[[⟨a,eB⟩],[⟨b,eB⟩]],[PF 158],[Mh 158],[false],[ByteArray.empty]⟩:=by unfold Tg;have e0:([[(⟨a,eB⟩:Tp)]].getD 0 [])=[⟨a,eB⟩]:=rfl;simp only[e0];rw[h.tailA];have d:=h.bytesA2 158 (AD _);rw[show 98+158=256 from rfl]at d;simp only[d];rfl
  have d1:Tg u 5 ⟨[[⟨a,eB⟩],[⟨b,eB⟩]],[PF 158],[Mh 158],[false],[ByteArray.empty]⟩ 1=.ok ⟨[[⟨a,eB⟩],[⟨b,eB⟩]],[PF 158,List.replicate 256 (-1)],[Mh 158,List.replicate 256 ByteArray.empty],[false,true],[ByteArray.empty,eB]⟩:=by unfold Tg;have e0:([[(⟨a,eB⟩:Tp)],[⟨b,eB⟩]].getD 1 [])=[⟨b,eB⟩]:=rfl;simp only[e0];rw[h.tailB];have d:=h.bytesB [[⟨a,eB⟩],[⟨b,eB⟩]] 256;simp only[d];rfl
  have g:IS u 5 5 0 ⟨[[⟨a,eB⟩]],[],[],[],[]⟩=.ok ⟨[[⟨a,eB⟩],[⟨b,eB⟩]],[PF 158,List.replicate 256 (-1)],[Mh 158,List.replicate 256 ByteArray.empty],[false,true],[ByteArray.empty,eB]⟩:=by unfold IS;rw[AU (by show 0<1;decide),d0];simp only;unfold IS;rw[AU (by show 1<2;decide),d1];simp only;unfold IS;rw[AP (by show ¬2<2;decide)]
  simp only[g];rfl
end
end
theorem q1_ck:Gp q1=true:=by decide +kernel
theorem X1L:∀b,b<256->b≠97->q1.nx 0 b=-1:=by decide +kernel
theorem Zm:∀b,b<256->q1.nx 1 b=-1:=by decide +kernel
theorem q1_a:q1.nx 0 97=1/\q1.os 0 97=Tj:=⟨by decide +kernel,by decide +kernel⟩
theorem X1X:q1.runL 1 []=some []:=by decide +kernel
theorem X1Y:q1.runL 0 [97]=some [120,121]:=by decide +kernel
theorem Vs:q1.run [97]=some [120,121]:=by decide +kernel
theorem Ws {w o:List UInt8} (h:q1.run w=some o):w=[97]/\o=[120,121]:=by
 have f:w=[97]:=by
  unfold SeqM.run at h;rw[AP (by decide)]at h;rcases w with _|⟨c,w⟩
  .have:q1.runL 0 []=none:=by decide +kernel
   rw[this]at h;cases h
  .by_cases b:c.toNat=97
   .have a:c=97:=UInt8.toNat.inj b
    subst a;rcases w with _|⟨d,w⟩
    .rfl
    .have e:q1.runL 0 (97::d::w)=none:=by
       unfold SeqM.runL;rw[show(97:UInt8).toNat=97 from rfl,q1_a.1,AP (by decide)];unfold SeqM.runL;rw[show(1:Int).toNat=1 from rfl,Zm _ d.toNat_lt,AU (by decide)];rfl
     rw[e]at h;cases h
   .have e:q1.runL 0 (c::w)=none:=by
      unfold SeqM.runL;rw[X1L _ c.toNat_lt b,AU (by decide)]
    rw[e]at h;cases h
 subst f;rw[Vs]at h;exact⟨rfl,(AL h).symm⟩
theorem Zn {k:Frt} (d:Fronts q1 k):¬Qs q1 k:=by
 have i:k.some 0=true->(k.l 0).size<=2:=fun a=>by have:=(d.beg 0 (by decide) a _ ⟨[97],X1Y⟩).length_le;rwa [CK]at this
 have j:k.some 1=true->(k.l 1).size<=2:=fun a=>by have:=(d.beg 1 (by decide) a _ ⟨[],X1X⟩).length_le;rw[CK]at this;exact AK this (by decide)
 rintro(⟨s,b,a,e,h0,f,g⟩|⟨a,g⟩)
 .have c:s=0\/s=1:=by
    have:q1.next.length=2:=rfl;omega
  rcases c with rfl|rfl
  .by_cases h97:b=97
   .subst h97
    rw[q1_a.1,show(1:Int).toNat=1 from rfl]at f g;have:=j f;have h2:(q1.os 0 97).size=2:=by rw[q1_a.2];rfl
    omega
   .rw [X1L b e h97]at h0;omega
  .rw [Zm b e]at h0;omega
 .have:=i a;have h2:q1.front.size=0:=rfl;omega
theorem Vt {r:SeqM} (b:Canon r) (e:∀x,r.run x=q1.run x):r.front=Tj:=by
 have a:∀w,r.run w=(r.runL 0 w).map (bl r.front++·):=fun w=>by unfold SeqM.run;rw[AP (by have:=b.pos;omega)]
 obtain⟨o,w,g⟩:=b.tight.live 0 b.pos;have h1:=a w;rw[g,e]at h1;obtain⟨_,h2⟩:=Ws h1;replace h2:bl r.front++o=[120,121]:=h2;have c:Beg r 0 o:=fun f ⟨w',d⟩=>by have h3:=a w';rw[d,e]at h3;obtain⟨_,h4⟩:=Ws h3;replace h4:bl r.front++f=[120,121]:=h4;have:o=f:=Da (h2.trans h4.symm);rw[this];exact CW _
 have h5:=b.tight.none 0 b.pos o c;rw[h5,BC]at h2;exact D_ h2
end
end Go.Proofs.YtcondkihpmmnnaaGreatDoor
