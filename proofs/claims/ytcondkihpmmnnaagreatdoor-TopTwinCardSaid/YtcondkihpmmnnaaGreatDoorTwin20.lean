/- Lemmas, part 20 of 50. No condition. -/
import Derived.Test.YtcondkihpmmnnaaGreatDoorTwin17
set_option maxRecDepth 100000
set_option maxHeartbeats 16000000
namespace Go.Proofs.YtcondkihpmmnnaaGreatDoor
section
open Go.RowKit Go.Sort
def M9 (B0 P0 G MB:Nat) (vA vE:Value) (most:Nat) (fr:ByteArray) (vR vN vO vEn vT:Value) (nv ov:List Value) (S:Mk) (M:Nat->Prop) (l:List Tp) (w:World) (e:Ending) (w':World):Prop:=
 Below B0 w w'/\(∀g,g<w.heap.size->g≠G->g≠MB->vR.ownBlock≠some g->w'.heap[g]?=w.heap[g]?)/\match FO most S.rows l with
  | .error k=>e=FP k
  | .ok (i,rows)=>e=.returned (.int .i64 (i:Int))/\∃vR' tv',MkV w' B0 P0 G MB vA vE (most:Int) fr vR' vN vO vEn vT tv' nv ov { S with rows:=rows } (fun g=>M g\/vR'.ownBlock=some g) /\∀g,vR'.ownBlock=some g->vR.ownBlock=some g\/w.heap.size<=g
theorem ZL:(Tryz.prog.info? 29).map (fun i=>(i.zero,i.size,i.bytes))=some (some (.slice none 0 0),1,24):=by kernel_rfl
theorem MU (w:World):(zeroValue 3).run Tryz.prog w=.ok (.int .i64 0) w:=by kernel_rfl
theorem Xe {rows:List (List Tp)} {l:List Tp} (most:Nat) (d:∀r∈rows,∀x∈r,0<=x.st) (f:∀x∈l,0<=x.st) (g:Fa l∈rows.map Fa):∃i,(rows.map Fa)[i]?=some (Fa l)/\FO most rows l=.ok (i,rows):=by
 obtain⟨r,a,b⟩:=Bd.1 g;obtain rfl:r=l:=T6 (d r a) f b
 have j:(rows.idxOf? r).isSome=true:=by
  rcases e:rows.idxOf? r with _|i
  .exact absurd a (List.idxOf?_eq_none_iff.1 e)
  .rfl
 obtain⟨i,hi⟩:=CZ.1 j;refine⟨i,?_,by unfold FO;rw[hi]⟩;have h2:=List.idxOf?_eq_some_iff.1 hi;obtain⟨c,h3,_⟩:=h2;rw[Ag,AG c,DA,(by simpa using h3:rows[i]=r)]
theorem ZM {rows:List (List Tp)} {l:List Tp} (most:Nat) (a:Fa l∉rows.map Fa):FO most rows l=if most<=rows.length then .error 2 else .ok (rows.length,rows++[l]):=by
 have:rows.idxOf? l=none:=List.idxOf?_eq_none_iff.2 fun h=>a (Bd.2 ⟨l,h,rfl⟩)
 unfold FO;rw[this]
theorem ZN (l:List Tp) (a:∀x∈l,0<=x.st/\x.st<10000/\x.out.size<=4096):(Fa l).length<=l.length*4200:=by
 induction l with
 | nil=>simp[Fa]
 | cons x l ih=>
  have h1:=WZ x (a x BR).1 (by have:=a x BR;omega) (by have:=a x BR;omega);have h2:=ih fun y b=>a y (CB _ b)
  have h3:=(a x BR).2.2;show(Ko x++Fa l).length<=_;rw[AJ,Bn];omega
theorem QX {B0 F G MB:Nat} {Y Z:Value} {most:Nat} {fr:ByteArray} {vR vN vO z vT:Value} {tv nv ov:List Value} {S:Mk} {M:Nat->Prop} (g c:Nat) (l:List Tp) (w:World) (h:MkV w B0 F G MB Y Z (most:Int) fr vR vN vO z vT tv nv ov S M) (hv:JU M w 2 (.slice (some ⟨g,0,none⟩) l.length c) l.length (B_ CL l)) (hP:Pow w B0) (Q:∀x∈l,0<=x.st/\x.st<10000/\x.out.size<=4096) (hn:l.length<=100000) (hr:∀r∈S.rows,∀x∈r,0<=x.st) (hm:most<=1024) (a2:S.rows.length<=most) :Calls Tryz.prog 63 #[.pointer (some ⟨G,0,none⟩),.slice (some ⟨g,0,none⟩) l.length c] w (M9 B0 F G MB Y Z most fr vR vN vO z vT nv ov S M l w):=by
 have H:B0<=w.heap.size:=AK h.le h.sz
 have L:Calls Tryz.prog 96 #[.slice (some ⟨g,0,none⟩) l.length c] w (S5 l w):=by
  obtain⟨g',c',e,h1,h2,h3,h4,h5⟩:=hv;injection e with e1 e2 e3
  subst e3;injection e1 with e1
  injection e1 with e1
  subst e1;exact X1h w.heap.size (some ⟨g,0,none⟩) l.length c l w h5 (AD _) (hP.mono H) Q hn
 have a3:F<=w.heap.size:=h.sz;have aa:=AB L;clear L;go_enter Tryz.func63,Tryz.ntmps63
 go_wp2_with fail
 refine aa.out.mono ?_;rintro e w1 ⟨m,rfl⟩;have h1:=h.call m;have A:=h1.box;have I:=hv.below m;have c2:=A.cell 2;have c3:=A.cell 3;have c4:=A.cell 4;obtain⟨X,D,b,ab,am,ac,an,ao,q⟩:=h1.num;have a4:(Fa l).length<=l.length*4200:=ZN l Q;have B:keyOf Tryz.prog 9 (.string ⟨(Fa l).toArray⟩)=some (.string (Fa l)):=by rw[Go.WideMaps.keyOf_string_mk Tryz.underlying9 (show(ByteArray.mk (Fa l).toArray).size<=maxLen from by show(Fa l).toArray.size<=_;rw[CJ];unfold maxLen;omega)]
 have hK:=QU.key B;by_cases d:Fa l∈S.rows.map Fa
 .obtain ⟨i,hi,s⟩:=Xe most hr (fun x hx=>(Q x hx).1) d
  have hh:=(q (Fa l)).1.2 d;have ad:=(q (Fa l)).2 i hi;have f:M9 B0 F G MB Y Z most fr vR vN vO z vT nv ov S M l w (.returned (.int .i64 (i:Int))) w1:=by refine⟨m.mono H,fun g hg _ _ _=>m.block g hg,?_⟩;rw[s];exact⟨rfl,vR,tv,h1.other (fun g _ e=>e.elim id (h1.mR g)) (.inl h1.mG) (.inl h1.mM) (fun g e=>.inr e) (fun g e=>.inl (h1.mN g e)) (fun g e=>.inl (h1.mO g e)) (fun g e=>.inl (h1.mE g e)) (fun g e=>.inl (h1.mT g e)) (fun g hg=>.inl (h1.low g hg)),fun g e=>.inl e⟩
  have t:=AB f;clear s f d q hi hr Q hv I h hP;generalize Fa l=kk at *
  go_wp2_with (at_lookup;refine E7 _ rfl _ _ 76 rfl 9 3 .i64 QU Tryz.underlying76 Tryz.underlying3 (MU _) MB X D rfl b _ _ rfl B ?_;intro cc n ae)
  rw[ad]at n;injection n with n
  injection n with _ n
  subst n;exact AQ (v:=.int .i64 (i:Int)) (by simp[results,Tryz.results63,go_sem]) rfl t.out
 .have s:=ZM (l:=l) most d
  have hh:Maps.has D (.string (Fa l))=false:=by rw[<-D5];exact fun e=>d ((q (Fa l)).1.1 e)
  obtain⟨Ar,cr,rfl,a5,a6,a7⟩:=BH h1.oR;by_cases R:most<=S.rows.length
  .have f:M9 B0 F G MB Y Z most fr (.slice Ar S.rows.length cr) vN vO z vT nv ov S M l w (FP 2) w1:=by
     refine⟨m.mono H,fun g hg _ _ _=>m.block g hg,?_⟩;rw[s,AU R]
   have t:=AB f;have a8:(S.rows.length:Int)>=(most:Int):=by omega
   clear s f d q hr Q hv I h hP;generalize Fa l=kk at *;generalize S.rows.length=E at *
   go_wp2_with (at_lookup;refine E7 _ rfl _ _ 76 rfl 9 3 .i64 QU Tryz.underlying76 Tryz.underlying3 (MU _) MB X D rfl b _ _ rfl B ?_;intro cc n ae)
   exact⟨rfl,t.out⟩
  .have a9:¬(S.rows.length:Int)>=(most:Int):=by omega
   have ap:X<maxLen:=by rw[A6]at ab;unfold maxLen;omega
   have aq:(Lit.int .i64 (S.rows.length:Int)).wf=true:=WalkArith.wf_i64 (by omega);have N:=AB (fun(W:World) (ho:W.ownsMap Tryz.prog 9 (plainElem Tryz.prog 3) MB (X+1) (D.put (.string (Fa l)) (.lit (.int .i64 (S.rows.length:Int)))))=>show NP W MB ((S.rows++[l]).map Fa)by rw[CH];exact Wb ab am ac an ao q (Fa l) d hh hK (by rw[A6];exact ho));have ar:=AB s;have HP:=AB hP;have HL:=AB Q;clear s d q hr Q h hP;generalize Fa l=kk at *;generalize af:S.rows.length=E at *;have ag:=AB af;clear af;go_upto_region 9 with(first|(at_lookup;refine E7 _ rfl _ _ 76 rfl 9 3 .i64 QU Tryz.underlying76 Tryz.underlying3 (MU _) MB X D rfl b _ _ rfl B ?_;intro cc n ae)|(at_mapUpdate;refine FC _ rfl _ _ _ 76 rfl 9 3 QU Tryz.underlying76 _ MB X D rfl b ap _ _ (.string kk) rfl rfl B _ [] (plainElem_int Tryz.underlying3 aq) ?_;intro O T j))
   have y:=A.grown j (fun e=>FV h1.num A (AL e));have ba:=m.size;have bb:=j.size;have d3:=y.cell 3;have f3:=y.frozen 3;have LB:=(AH O.heap.size O).alloc (AD _) (.cells #[.slice (some ⟨g,0,none⟩) l.length c] 29);have J:=h1.oR;rw[ag.out]at J;have ah:=BQ (J.kept j (.inr (JG h1.num J))) LB;have C:=y.below LB y.lt;have au:=Bg O [.slice (some ⟨g,0,none⟩) l.length c] 29 1 1 rfl;obtain⟨i0,hi,av,aw,ax⟩:=BK ZL;have h63:E+1<=maxLen:=by unfold maxLen;omega
   have ay:(E+1)*24<=140737488355328:=by omega
   have ai:∀u∈[Value.slice (some ⟨g,0,none⟩) l.length c],u.oneCell'=true:=fun u hu=>by simp at hu;subst hu;rfl
   have U:F<=(O.alloc (.cells #[.slice (some ⟨g,0,none⟩) l.length c] 29)).heap.size:=by simp;omega
   have az:=fun k (e:(Value.slice Ar E cr).ownBlock=some k)=>own_lt J k e
   have aj:=AV ah C (by decide)
   have P:∀(v':Value) (V:World),V.ownsRow F 29 1 v' (E+1) (tv++[.slice (some ⟨g,0,none⟩) l.length c])->(O.alloc (.cells #[.slice (some ⟨g,0,none⟩) l.length c] 29)).grownBy V (Value.slice Ar E cr).ownBlock ->(v'.ownBlock=(Value.slice Ar E cr).ownBlock\/v'.ownBlock=some (O.heap.size+1)) ->M9 B0 F G MB Y Z most fr (.slice Ar E cr) vN vO z vT nv ov S M l w (.returned (.int .i64 (E:Int))) (V.setCell ⟨G,3,none⟩ v'):=by
    intro v' V b a o;have a0:Below B0 w V:=((m.mono H).grown j (by omega) (fun k K=>by have:=AL K;have:=h1.gM;omega)).trans ((LB.mono (by omega)).grown a (by have:=h1.le;omega) (fun k K=>by have:=(az k K).1;have:=h1.le;omega));refine⟨a0.setCell (p:=⟨G,3,none⟩) h1.gG _,fun k K n1 n2 n3=>?_,?_⟩
    .rw [Am _ _ _ _ (show k≠G from n1),a.block k (by simp;omega) (fun e=>n3 e.symm),LB.block k (by omega),j.block k (by omega) (fun e=>n2 (AL e)),m.block k K]
    rw[ar.out,AP (by omega)];have ak:=N.out O T;have a1:=h1.putR (l:=l) ak j LB I (by exact a) (by rw[ag.out];exact b) (by rw[Ad];exact o);refine⟨rfl,v',_,a1,fun k K=>?_⟩;rcases o with e|e
    .exact .inl (e▸K)
    .right;rw[e]at K;have:=AL K;omega
   have al:=AB P;clear P hv I N HP HL
   go_wp2_with (at_builtin;refine Ba _ rfl _ _ 68 rfl F 29 i0 _ 1 24 Tryz.underlying68 hi av aw ax rfl (by decide) _ _ _ rfl ah _ (some ⟨O.heap.size,0,none⟩) 1 1 [.slice (some ⟨g,0,none⟩) l.length c] rfl au ai h63 ay U ?_;intro v' V b a o;obtain⟨A4,bc,rfl,_,_,_⟩:=BH b;have e3:=(BM C a aj).cell 3;have bd:=(BM C a aj).frozen 3)
   have HQ:=AB (al.out _ V b a (by rw[Ad]at o;exact o));exact AQ (v:=.int .i64 (E:Int)) (by simp[results,Tryz.results63,go_sem]) rfl HQ.out
end
section
open Go.RowKit Go.Sort
theorem M_ {α:Type} [DecidableEq α]:∀l:List α,(DX l).Sublist l
 | []=>List.Sublist.refl _
 | [x]=>List.Sublist.refl _
 | x::y::l=>by
  unfold DX;split
  .exact (M_ (y::l)).cons x
  .exact (M_ (y::l)).cons_cons x
theorem ZO (l:List Tp):(Eo l).Pairwise fun x y=>x.st<=y.st:=by
 have h:(Eo l).Pairwise fun x y=>(!decide (L_ y x<0))=true:=by
  unfold Eo;refine List.pairwise_mergeSort (fun a b c h1 h2=>?_) (fun a b=>?_) l
  .simp only[Bool.not_eq_true',EO]at h1 h2 ⊢;have s1:=Jw.sym a b;have s2:=Jw.sym b c;have s3:=Jw.sym a c;have:=Jw.le a b c (by omega) (by omega);omega
  .simp only[DJ,Bool.not_eq_true',EO];have s1:=Jw.sym a b;omega
 refine h.imp fun {x y} h=>?_
 simp only[Bool.not_eq_true',EO]at h;apply DC;intro d;apply h;unfold L_;rw[AU (by omega)];decide
theorem Wc:∀l:List Tp,(l.Pairwise fun x y=>x.st<=y.st)->It l=false->l.Pairwise fun x y=>x.st<y.st
 | [],_,_=>List.Pairwise.nil
 | [x],_,_=>List.pairwise_singleton _ _
 | x::y::l,h,ht=>by
  unfold It at ht;rw[Bool.or_eq_false_iff]at ht;have h2:=Wc (y::l) (List.pairwise_cons.1 h).2 ht.2
  have a:x.st<y.st:=by
   have h0:=(List.pairwise_cons.1 h).1 y BR;have:x.st≠y.st:=by simpa using ht.1
   omega
  refine List.pairwise_cons.2 ⟨fun z b=>?_,h2⟩;rcases Bh.1 b with rfl|b
  .exact a
  .have:=(List.pairwise_cons.1 h2).1 z b;omega
structure RowG (ns:Nat) (r:List Tp):Prop where
 all:∀x∈r,0<=x.st/\x.st<(ns:Int)/\x.out.size<=4096
 nodup:(r.map Tp.st).Nodup
theorem RowG.len {ns:Nat} {r:List Tp} (h:RowG ns r):r.length<=ns:=by
 have h1:((r.map Tp.st).map Int.toNat).Nodup:=by refine List.Pairwise.map _ (fun a b d=>d) ?_;refine(List.pairwise_iff_getElem.2 fun i j hi g f=>?_);have c:=(List.pairwise_iff_getElem.1 h.nodup) i j hi g f;rw[A6]at hi g;have m:=h.all r[i] (CI _);have a2:=h.all r[j] (CI _);rw[ER,ER]at c ⊢;intro e;exact c (by omega)
 have h2:((r.map Tp.st).map Int.toNat) ⊆ List.range ns:=fun a k=>by rw[Gc]at k;obtain⟨x,l,rfl⟩:=Bd.1 k;have:=h.all x l;rw[BE];show x.st.toNat<ns;omega
 have:=GQ h1 h2;rw[A6,A6,EA]at this;exact this
theorem QY {ns:Nat} {l r:List Tp} {f:ByteArray} (h:EU l=.ok (f,r)) (c:∀x∈l,0<=x.st/\x.st<(ns:Int)):RowG ns r:=by
 obtain⟨h1,h2,h3,h4⟩:=Hh h;refine⟨fun y d=>?_,?_⟩
 .obtain ⟨x,g,rfl⟩:=(h3 y).1 d;exact⟨(c x g).1,(c x g).2,h2 _ d⟩
 .have i:It (Gf l)=false:=by
    rw[<-D5];intro e;unfold EU at h;simp only at h;rw[AU e]at h;cases h
  have j:r=(Gf l).map (Ie f.size):=by
   unfold EU at h;simp only at h;rw[AP (by rw[i];decide)]at h;split at h
   .cases h
   split at h
   .cases h
   injection h with h
   injection h with e1 e2
   rw[<-e2,<-e1]
  rw[j,Gc];have k:=Wc (Gf l) ((ZO l).sublist (M_ _)) i;exact List.Pairwise.map _ (fun a b m=>by show a.st≠b.st;omega) k
theorem Ru {l r:List Tp} {f:ByteArray} (h:EU l=.ok (f,r)):r.length<=l.length:=by
 have a:∃k,r=(Gf l).map (Ie k):=by
  unfold EU at h;simp only at h;split at h
  .cases h
  split at h
  .cases h
  split at h
  .cases h
  injection h with h
  injection h with e1 e2
  exact⟨_,e2.symm⟩
 obtain⟨k,rfl⟩:=a;rw[A6];have:=(M_ (Eo l)).length_le;unfold Gf;unfold Eo at this ⊢;rwa [EC]at this
theorem ZP {l r:List Tp} {f:ByteArray} (h:EU l=.ok (f,r)) (a:l≠[]):r≠[]:=by obtain⟨_,_,h3,_⟩:=Hh h;obtain⟨x,b⟩:=De _ a;exact Cu ((h3 _).2 ⟨x,b,rfl⟩)
theorem N9 {a:List Ar} {most:Nat} {l:List Tp} {rows:List (List Tp)} {k:Nat} {e:Int} (h:Et a most l rows k=.error e):∀j,Et a most l rows (k+j)=.error e
 | 0=>h
 | j+1=>by show Et a most l rows ((k+j)+1)=_;unfold Et;rw[N9 h j]
theorem PT {a:List Ar} {most:Nat} {l:List Tp} {rows:List (List Tp)} {k:Nat} {e:Int} (b:k<=256) (h:Et a most l rows k=.error e):Et a most l rows 256=.error e:=by have:=N9 h (256-k);rwa [Nat.add_sub_cancel' b]at this
theorem UA {a:List Ar} {most:Nat} {l:List Tp} {rows:List (List Tp)} {k:Nat} {b:List (List Tp)×List Int×List ByteArray} (h:Et a most l rows k=.ok b):Et a most l rows (k+1)=MH a most l k b:=by
 conv=>lhs;unfold Et
 rw[h]
def J7 (l:List Int) (n:Nat):Array Value:=(l.map (Value.int .i64)++List.replicate (n-l.length) (Value.int .i64 0)).toArray
def I4 (l:List ByteArray) (n:Nat):Array Value:=(l.map Value.string++List.replicate (n-l.length) (Value.string ByteArray.empty)).toArray
theorem UB {α:Type} (l:List α) (n:Nat) (z x:α) (h:l.length<n):(l++List.replicate (n-l.length) z).set l.length x=(l++[x])++List.replicate (n-(l++[x]).length) z:=by
 rw[List.set_append_right _ _ (AD _),Gd,AJ,BJ];obtain⟨m,a⟩:∃m,n-l.length=m+1:=⟨n-l.length-1,by omega⟩
 rw[a,List.replicate_succ,List.set_cons_zero,Ac];congr 2;congr 1;omega
theorem Xf (l:List Int) (n:Nat) (x:Int) (h:l.length<n):(J7 l n).setIfInBounds l.length (.int .i64 x)=J7 (l++[x]) n:=by unfold J7;rw[Bm];congr 1;have:=UB (l.map (Value.int .i64)) n (.int .i64 0) (.int .i64 x) (by rw[A6];exact h);simp only[A6]at this;rw[this,CH];simp
theorem VZ (l:List ByteArray) (n:Nat) (x:ByteArray) (h:l.length<n):(I4 l n).setIfInBounds l.length (.string x)=I4 (l++[x]) n:=by unfold I4;rw[Bm];congr 1;have:=UB (l.map Value.string) n (.string ByteArray.empty) (.string x) (by rw[A6];exact h);simp only[A6]at this;rw[this,CH];simp
theorem UC (l:List ByteArray) (n:Nat) (h:l.length<n):I4 l n=I4 (l++[ByteArray.empty]) n:=by
 unfold I4;congr 1;obtain⟨m,a⟩:∃m,n-l.length=m+1:=⟨n-l.length-1,by omega⟩
 rw[a,List.replicate_succ,CH,Ac];congr 2;rw[AJ,BJ];congr 1;omega
theorem GJ (a:Ar) (b:Nat):(a.putB b).size<=a.out.size+1:=by
 have e:=BY List.length (DW a.out (if a.cp then⟨#[b.toUInt8]⟩else ByteArray.empty));rw[CK,AJ,CK,CK]at e;show(a.out++if a.cp then⟨#[b.toUInt8]⟩else ByteArray.empty).size<=_;rw[e];split
 .exact AD _
 .exact EQ _
theorem ZQ (l:List Int) (n k:Nat) (h:l.length=k) (a:k<n):(J7 l n)[k]?=some (.int .i64 0):=by unfold J7;rw[CQ,CT (by simp;omega)];simp only[A6,h,Gd];rw[CC,AU (by omega)]
theorem Xg (l:List ByteArray) (n k:Nat) (h:l.length=k) (a:k<n):(I4 l n)[k]?=some (.string ByteArray.empty):=by unfold I4;rw[CQ,CT (by simp;omega)];simp only[A6,h,Gd];rw[CC,AU (by omega)]
theorem Va (l:List Int) (n k:Nat) (x:Int) (h:l.length=k):(J7 (l++[x]) n)[k]?=some (.int .i64 x):=by unfold J7;rw[CQ,Bi (by simp;omega)];simp[<-h]
theorem UD (l:List Int) (n:Nat) (x y:Int) (_h:l.length<n):(J7 (l++[x]) n).setIfInBounds l.length (.int .i64 y)=J7 (l++[y]) n:=by unfold J7;rw[Bm];congr 1;simp only[CH,DO,EG,Ac,AJ,BJ];rw[List.set_append_right _ _ (by simp)];simp
end
end Go.Proofs.YtcondkihpmmnnaaGreatDoor
