/- Lemmas, part 49 of 50. No condition. -/
import Derived.Test.YtcondkihpmmnnaaGreatDoorTwin46
set_option maxRecDepth 100000
set_option maxHeartbeats 16000000
namespace Go.Proofs.YtcondkihpmmnnaaGreatDoor
section
open Go.RowKit Go.Sort
structure BgW (W4 wr:World) (G LA LE n:Nat) (v1 v2 v3:Value) (vA vE:List Value) (rA:Nat->List Int) (rE:Nat->List ByteArray):Prop where
 box:BL wr G 155 (Jg n v1 v2 v3 LA LE Bf Bf Bf ⟨#[]⟩ false)
 gA:Grp Ib 1 wr W4.heap.size LA n 55 3 vA rA
 gE:Grp Kr 1 wr W4.heap.size LE n 25 9 vE rE
 lG:W4.heap.size<=G
 bel:Below W4.heap.size W4 wr
section
variable {W4 wr w':World} {G LA LE n:Nat} {v1 v2 v3:Value} {vA vE:List Value} {rA:Nat->List Int} {rE:Nat->List ByteArray}
theorem BgW.call (h:BgW W4 wr G LA LE n v1 v2 v3 vA vE rA rE) (a:Below wr.heap.size wr w'):BgW W4 w' G LA LE n v1 v2 v3 vA vE rA rE:=⟨h.box.below a h.box.lt,h.gA.call a,h.gE.call a,h.lG,h.bel.trans (a.mono h.bel.size)⟩
theorem BgW.lA (h:BgW W4 wr G LA LE n v1 v2 v3 vA vE rA rE):W4.heap.size<=LA/\LA<wr.heap.size:=own_lt h.gA.own LA rfl
theorem BgW.lE (h:BgW W4 wr G LA LE n v1 v2 v3 vA vE rA rE):W4.heap.size<=LE/\LE<wr.heap.size:=own_lt h.gE.own LE rfl
theorem BgW.putA (h:BgW W4 wr G LA LE n v1 v2 v3 vA vE rA rE) (s:Nat) (f:s<n) {v':Value} (x:Int) (a:wr.grownBy w' (vA.getD s Bf).ownBlock) (g:w'.ownsRow W4.heap.size 3 1 v' ((rA s).length+1) (B_ Ib (rA s)++Ib x)) (i:v'.ownBlock=(vA.getD s Bf).ownBlock\/v'.ownBlock=some wr.heap.size) :BgW W4 (w'.setCell ⟨LA,s,none⟩ v') G LA LE n v1 v2 v3 (vA.set s v') vE (fun t=>if t=s then rA s++[x]else rA t) rE:=by
 have b:=h.gA.row s f;have j:=h.gE.kept a (fun e=>BG b h.gE.own (by decide) LE e rfl) (fun t c=>(BG (h.gE.row t c) b (by decide)).or_none);have d:=h.bel.size;refine⟨(BM h.box a (AV b h.box (by decide))).far (p:=⟨LA,s,none⟩) (fun e=>AV h.gA.own h.box (by decide) (by rw[e];rfl)) _,h.gA.put (by decide) s f x a g i,?_,h.lG,?_⟩
 .refine j.set (p:=⟨LA,s,none⟩) (fun e=>BG h.gA.own h.gE.own (by decide) LA rfl (by rw[show LE=LA from e.symm];rfl)) (fun t c e=>?_) _;exact BG (h.gE.row t c) h.gA.own (by decide) LA e rfl
 .exact (h.bel.grown a d (fun k l=>(own_lt b k l).1)).setCell (p:=⟨LA,s,none⟩) h.lA.1 _
theorem BgW.putE (h:BgW W4 wr G LA LE n v1 v2 v3 vA vE rA rE) (s:Nat) (f:s<n) {v':Value} (x:ByteArray) (a:wr.grownBy w' (vE.getD s Bf).ownBlock) (g:w'.ownsRow W4.heap.size 9 1 v' ((rE s).length+1) (B_ Kr (rE s)++Kr x)) (i:v'.ownBlock=(vE.getD s Bf).ownBlock\/v'.ownBlock=some wr.heap.size) :BgW W4 (w'.setCell ⟨LE,s,none⟩ v') G LA LE n v1 v2 v3 vA (vE.set s v') rA (fun t=>if t=s then rE s++[x]else rE t):=by
 have b:=h.gE.row s f;have j:=h.gA.kept a (fun e=>BG b h.gA.own (by decide) LA e rfl) (fun t c=>(BG (h.gA.row t c) b (by decide)).or_none);have d:=h.bel.size;refine⟨(BM h.box a (AV b h.box (by decide))).far (p:=⟨LE,s,none⟩) (fun e=>AV h.gE.own h.box (by decide) (by rw[e];rfl)) _,?_,h.gE.put (by decide) s f x a g i,h.lG,?_⟩
 .refine j.set (p:=⟨LE,s,none⟩) (fun e=>BG h.gE.own h.gA.own (by decide) LE rfl (by rw[show LA=LE from e.symm];rfl)) (fun t c e=>?_) _;exact BG (h.gA.row t c) h.gE.own (by decide) LE e rfl
 .exact (h.bel.grown a d (fun k l=>(own_lt b k l).1)).setCell (p:=⟨LE,s,none⟩) h.lE.1 _
end
def Sa (u:Fs) (n:Nat) (w:World) (e:Ending) (w':World):Prop:=∃L:SrL,e=.returned (.pointer (some ⟨L.G,0,none⟩))/\L.B=w.heap.size/\L.n=n/\L.n1=u.starts.length /\SrV L u w' (List.replicate (n*n) ED) Bf [] (List.replicate (n*n) 0) ⟨#[]⟩ false/\Below w.heap.size w w'
theorem Ta {w:World} {base g n k:Nat} {e:TypeId} {xs:List Value} (h:w.ownsRow base e k (.slice (some ⟨g,0,none⟩) n n) n xs):BL w g e xs.toArray:=by
 obtain⟨i,h|⟨j,cap,a,b,_,c,l,_,d,f⟩⟩:=h
 .obtain ⟨h,_⟩:=h;cases h
 .injection b with hv1 _ hv2
  injection hv1 with hv1
  injection hv1 with hv1
  subst hv1 hv2;have:a=xs.toArray:=by rw[<-f,BX (by rw[FL];omega)]
  rw[<-this];exact c
theorem X0u (n:Nat):(madeCells (MA ED).toArray (n*5)).toList=B_ MA (List.replicate n ED):=by
 apply Ct;intro j;by_cases b:j<n*5
 .have h1:j / 5<n:=by omega
  have h2:j%5<5:=Cz _ (by decide);have:=If Hd (List.replicate n ED) ED (j / 5) (j%5) (by simpa using h1) h2;rw[show j / 5*5+j%5=j by omega,AC,CC,AU h1,DV]at this;rw[this];simp only[madeCells,Array.toList_map,Ag,Array.toList_range,CP b,DA];have a:(MA ED).toArray.size=5:=rfl;rw[a,AG (by rw[Hd];exact h2)];rw[getElem!_pos (MA ED).toArray (j%5) (by rw[a];exact h2)];rfl
 .rw [AY (by rw[FL,size_madeCells];omega),AY (by rw[Fu Hd,List.length_replicate];omega)]
theorem X0v:(Tryz.prog.info? 208).map (fun i=>(i.zero,i.size,i.bytes))=some (some (.agg #[.bool false,.bool false,.int .i64 0,.int .i64 0,.int .u8 0]),5,32):=by kernel_rfl
theorem X2f {W4 wr a w8 w0:World} {G LA LE n B d:Nat} {F X H:Option Addr} {Y Z c3 E n2 I:Nat} {vA vE:List Value} {u:Fs} (aa:w0.heap.size<=W4.heap.size) (hB:B<=w0.heap.size) (c:BgW W4 wr G LA LE n (.slice F E Y) (.slice X n2 Z) (.slice H I c3) vA vE (IA u.arcs u.arcs.length) (EX u.ends)) (J:d=n*n) (U1:Reads W4 B 2 F E (B_ CL u.starts)) (U3:Reads W4 B 8 H I (B_ Cx u.arcs)) (K:w0.heap.size<=G) (b6:Below wr.heap.size wr a) (hH:BL a wr.heap.size 208 (B_ MA (List.replicate d ED)).toArray) (j:Below (a.setCell ⟨G,6,none⟩ (.slice (some ⟨wr.heap.size,0,none⟩) d d)).heap.size (a.setCell ⟨G,6,none⟩ (.slice (some ⟨wr.heap.size,0,none⟩) d d)) w8) (hP:BL w8 a.heap.size 3 ((List.replicate d (0:Int)).map (Value.int .i64)).toArray) :∃L:SrL,L.G=G/\L.B=w0.heap.size/\L.n=n/\L.n1=E /\SrV L u (w8.setCell ⟨G,8,none⟩ (.slice (some ⟨a.heap.size,0,none⟩) d d)) (List.replicate (n*n) ED) Bf [] (List.replicate (n*n) 0) ⟨#[]⟩ false/\Below W4.heap.size W4 (w8.setCell ⟨G,8,none⟩ (.slice (some ⟨a.heap.size,0,none⟩) d d)):=by
 subst J;have z4:=c.bel.size;have ab:=c.lA;have ac:=c.lE;have v:=c.lG;have ad:=c.box.lt;have ae:=hH.lt;have h6:=c.call b6;have w:(a.setCell ⟨G,6,none⟩ (.slice (some ⟨wr.heap.size,0,none⟩) (n*n) (n*n))).heap.size=a.heap.size:=by simp
 rw[w]at j;have af:=j;have M:=hP.lt;have o:G≠LA:=fun e=>AV h6.gA.own h6.box (by decide) (by rw[e];rfl)
 have q:G≠LE:=fun e=>AV h6.gE.own h6.box (by decide) (by rw[e];rfl)
 have N:=h6.gA.set (p:=⟨G,6,none⟩) o (fun t r=>AV (h6.gA.row t r) h6.box (by decide)) (.slice (some ⟨wr.heap.size,0,none⟩) (n*n) (n*n));have O:=h6.gE.set (p:=⟨G,6,none⟩) q (fun t r=>AV (h6.gE.row t r) h6.box (by decide)) (.slice (some ⟨wr.heap.size,0,none⟩) (n*n) (n*n));have l:=h6.box.set_ 6 (.slice (some ⟨wr.heap.size,0,none⟩) (n*n) (n*n));have x:=hH.far (p:=⟨G,6,none⟩) (show wr.heap.size≠G by omega) (.slice (some ⟨wr.heap.size,0,none⟩) (n*n) (n*n));have m:=h6.bel.setCell (p:=⟨G,6,none⟩) v (.slice (some ⟨wr.heap.size,0,none⟩) (n*n) (n*n));generalize a.setCell ⟨G,6,none⟩ (.slice (some ⟨wr.heap.size,0,none⟩) (n*n) (n*n))=w7 at *;rw[<-w]at j;have y:=N.call j;have z:=O.call j;have f:=l.below j l.lt;have P:=x.below j x.lt;have A:=m.trans (j.mono m.size);have ag:=b6.size;have Q:∀s g,s<n->(vA.getD s Bf).ownBlock=some g->W4.heap.size<=g/\g<wr.heap.size:=fun s g b e=>own_lt (c.gA.row s b) g e
 have R:∀s g,s<n->(vE.getD s Bf).ownBlock=some g->W4.heap.size<=g/\g<wr.heap.size:=fun s g b e=>own_lt (c.gE.row s b) g e
 have S:=y.set (p:=⟨G,8,none⟩) o (fun t r=>AV (y.row t r) f (by decide)) (.slice (some ⟨a.heap.size,0,none⟩) (n*n) (n*n));have T:=z.set (p:=⟨G,8,none⟩) q (fun t r=>AV (z.row t r) f (by decide)) (.slice (some ⟨a.heap.size,0,none⟩) (n*n) (n*n));have C:∀k,k<B->Fx w8.heap.size G wr.heap.size a.heap.size k:=fun k hk=>⟨by omega,by omega,by omega,by omega⟩
 have i:=A.setCell (p:=⟨G,8,none⟩) v (.slice (some ⟨a.heap.size,0,none⟩) (n*n) (n*n));have D:B<=W4.heap.size:=by omega
 have fA:Fx w8.heap.size G wr.heap.size a.heap.size LA:=⟨by omega,fun e=>o e.symm,by omega,by omega⟩;have fE:Fx w8.heap.size G wr.heap.size a.heap.size LE:=⟨by omega,fun e=>q e.symm,by omega,by omega⟩;have U:∀s g,s<n->(vA.getD s Bf).ownBlock=some g->Fx w8.heap.size G wr.heap.size a.heap.size g:=fun s g b e=>by have:=Q s g b e;exact⟨by omega,fun V=>AV (c.gA.row s b) c.box (by decide) (by rw[<-V];exact e),by omega,by omega⟩
 have W:∀s g,s<n->(vE.getD s Bf).ownBlock=some g->Fx w8.heap.size G wr.heap.size a.heap.size g:=fun s g b e=>by have:=R s g b e;exact⟨by omega,fun V=>AV (c.gE.row s b) c.box (by decide) (by rw[<-V];exact e),by omega,by omega⟩
 refine⟨⟨w0.heap.size,w8.heap.size,G,wr.heap.size,a.heap.size,LA,LE,n,F,E,Y,X,n2,Z,H,I,c3⟩,rfl,rfl,rfl,rfl,?_,i⟩
 exact {
  box:=f.set_ 8 _
  hb:=P.far (p:=⟨G,8,none⟩) (show wr.heap.size≠G by omega) _
  pb:=hP.far (p:=⟨G,8,none⟩) (show a.heap.size≠G by omega) _
  oR:=Bc _ _ _ _
  rdS:=DP.of_reads (U1.below (i.mono D)) C
  rdA:=DP.of_reads (U3.below (i.mono D)) C
  gA:=GE.of_grp S fA fun s g b e=>U s g b e
  gE:=GE.of_grp T fE fun s g b e=>W s g b e
  sz:=by simp
  gG:=⟨K,by show G<w8.heap.size;omega⟩
  gH:=⟨by show w0.heap.size<=wr.heap.size;omega,by show wr.heap.size<w8.heap.size;omega⟩
  gP:=⟨by show w0.heap.size<=a.heap.size;omega,M⟩ }
end
section
open Go.RowKit Go.Sort
theorem Ya (u:Fs) (n:Nat) (vt:Value) (B:Nat) (w:World) (cb:EK w B u vt) (hB:B<=w.heap.size) (F:Fit u n) (cc:u.ends.length<=1024) :Calls Tryz.prog 74 #[vt] w (Sa u n w):=by
 obtain⟨N,O,A2,P,A3,Q,rfl,h1,h2,h3,h4,h5,h6,h7,h8,R1,W1,R2,W2,R3,W3⟩:=cb;have bp:=F.n;have au:=F.le;have HF:=AB F;rw[bp];have Ja:=BL.new w 32 #[.int .i64 (n:Int),.slice N u.starts.length O,.slice A2 u.ends.length P,.slice A3 u.arcs.length Q];have LB:=(AH w.heap.size w).alloc (AD _) (.cells #[.int .i64 (n:Int),.slice N u.starts.length O,.slice A2 u.ends.length P,.slice A3 u.arcs.length Q] 32);have cd:=LB;have dc:(w.alloc (.cells #[.int .i64 (n:Int),.slice N u.starts.length O,.slice A2 u.ends.length P,.slice A3 u.arcs.length Q] 32)).heap.size=w.heap.size+1:=by simp
 generalize bq:w.alloc (.cells #[.int .i64 (n:Int),.slice N u.starts.length O,.slice A2 u.ends.length P,.slice A3 u.arcs.length Q] 32)=W4 at *;have ce:=AB bq;have U1:=R1.below (LB.mono hB);have U2:=R2.below (LB.mono hB);have U3:=R3.below (LB.mono hB);have y0:=AF (Ja.cell 0);have y1:=AF (Ja.cell 1);have y2:=AF (Ja.cell 2);have y3:=AF (Ja.cell 3);obtain⟨iA,a1,a2,a3,a4⟩:=BK Qf;obtain⟨iE,b1,b2,b3,b4⟩:=BK Kt;have br:iA.bytes*n<=281474976710656:=by rw[a4];omega
 have bs:iE.bytes*n<=281474976710656:=by rw[b4];omega
 have bt:n<=maxLen:=by unfold maxLen;omega
 clear R1 R2 R3 F bp;go_enter Tryz.func74,Tryz.ntmps74;go_upto_region 1 with(fail)
 clear ce bq;refine H_ 7 [0,1,2,4,5] [3,6] (by kernel_rfl) (by kernel_rfl) rfl (by kernel_rfl) ?_;simp only[CV,A_,BA,Az,BI,Bn,Co]
 repeat (go_big_quiet_step (fail))
 refine Ah ?_;clear y0 y1 y2 y3
 refine fan2 (i:=3) (j:=6) (di:=11) (dj:=14) (by decide) (by decide) rfl rfl
  (G7 rfl rfl 10 (by decide) 22 rfl 55 iA _ 1 Tryz.underlying22 a1 a2 a3 n rfl br bt)
  (G7 rfl rfl 13 (by decide) 23 rfl 25 iE _ 1 Tryz.underlying23 b1 b2 b3 n rfl bs bt) ?_
 rintro vi vj W a8 ⟨LA,rfl,dd,a9⟩ ⟨LE,rfl,de,ba⟩;rw[show(Value.slice none 0 0).cells=#[Value.slice none 0 0]from rfl,CG,BZ]at a9 ba;have av:W4.heap.size<=W.heap.size:=a8.size;have aw:Below W4.heap.size W4 W:=(AH _ W4).drew.trans a8;have LG:=(AH W.heap.size W).alloc (AD _) (.cells (Jg n (.slice N u.starts.length O) (.slice A2 u.ends.length P) (.slice A3 u.arcs.length Q) LA LE Bf Bf Bf ⟨#[]⟩ false) 155)
 have bb:BgW W4 (W.alloc (.cells (Jg n (.slice N u.starts.length O) (.slice A2 u.ends.length P) (.slice A3 u.arcs.length Q) LA LE Bf Bf Bf ⟨#[]⟩ false) 155)) W.heap.size LA LE n (.slice N u.starts.length O) (.slice A2 u.ends.length P) (.slice A3 u.arcs.length Q) (List.replicate n Bf) (List.replicate n Bf) (IA u.arcs 0) (H9 u.ends 0):={
  box:=BL.new W _ _
  gA:=J8 (BQ a9 LG) (fun _=>rfl)
  gE:=J8 (BQ ba LG) (fun _=>rfl)
  lG:=av
  bel:=aw.trans (LG.mono av) }
 have k3:=(Ja.below bb.bel Ja.lt).cell 3;have ax:=AB bb;clear a9 ba LG a8 aw bb a1 a2 a3 a4 b1 b2 b3 b4 br bs;simp only[Act.put];go_wp2;refine Be ?_;generalize W.alloc (.cells (Jg n (.slice N u.starts.length O) (.slice A2 u.ends.length P) (.slice A3 u.arcs.length Q) LA LE Bf Bf Bf ⟨#[]⟩ false) 155)=W5 at *;generalize W.heap.size=G at *;generalize bu:u.arcs.length=R at *;have bc:=AB bu;clear bu;generalize bv:u.ends.length=ne at *;have bd:=AB bv;clear bv;generalize bw:u.starts.length=ns at *;have cf:=AB bw;clear bw;have df:R<=16384:=by have:=HF.out.many;rw[bc.out]at this;exact this
 have cg:ne<=1024:=cc;go_wp2;clear k3;go_loopw [20] (fun i wr=>∃(k:Nat) (vA vE:List Value),k<=R/\i=.int .i64 ((k:Nat):Int)/\BgW W4 wr G LA LE n (.slice N ns O) (.slice A2 ne P) (.slice A3 R Q) vA vE (IA u.arcs k) (H9 u.ends 0)) (fun i _=>R-(intOf i).toNat)
 case atStart=>exact⟨0,_,_,AN _,rfl,ax.out⟩
 case round=>
  clear ax;obtain⟨k,vA,vE,hk,rfl,C⟩:=hrel;by_cases be:k<R
  .have ch:(0:Int)<=(k:Int):=by omega
   have ci:(k:Int)<(R:Int):=by omega
   obtain⟨g3,o3,rfl,cj,a0,a1,a2,a3,a4,a5,a6,a7⟩:=Di (U3.below (C.bel.mono (by omega))) k be;have ap:k<u.arcs.length:=by have:=bc.out;omega
   have hx:=HF.out.arcs _ (getD_in u.arcs Cq k ap);obtain⟨s,hs⟩:∃s:Nat,(u.arcs.getD k Cq).fr=(s:Int):=⟨_,(AT hx.1).symm⟩
   have c:s<n:=by omega
   have T:=AB (fun z=>YO u.arcs k z);have ck:(IA u.arcs k s).length<=16384:=AK (Mp u.arcs k s) (by omega);clear hx;generalize IA u.arcs k=rows at *;generalize u.arcs.getD k Cq=x at *;obtain⟨fr,tt,⟨aa,ab,ac,ad⟩,q,cp⟩:=x;simp only at hs a0 a1 a2 a3 a4 a5 a6 a7;subst hs;have cl:(0:Int)<=(s:Int):=by omega
   have cm:(s:Int)<(n:Int):=by omega
   have m:=C.call ((AH wr.heap.size wr).alloc (AD _) (.cells #[.int .i64 (s:Int),.int .i64 tt,.int .u64 aa,.int .u64 ab,.int .u64 ac,.int .u64 ad,.string q,.bool cp] 61));have HG:=BL.new wr 61 #[.int .i64 (s:Int),.int .i64 tt,.int .u64 aa,.int .u64 ab,.int .u64 ac,.int .u64 ad,.string q,.bool cp];have bx:=C.bel.size;have ae:=fun g (e:(vA.getD s Bf).ownBlock=some g)=>(own_lt (C.gA.row s c) g e).2
   clear C;go_wp2;clear a0 a1 a2 a3 a4 a5 a6 a7;generalize bf:wr.heap.size=gx at *;have bg:(wr.alloc (.cells #[.int .i64 (s:Int),.int .i64 tt,.int .u64 aa,.int .u64 ab,.int .u64 ac,.int .u64 ad,.string q,.bool cp] 61)).heap.size=gx+1:=by rw[Ad,bf]
   generalize (wr.alloc (.cells #[.int .i64 (s:Int),.int .i64 tt,.int .u64 aa,.int .u64 ab,.int .u64 ac,.int .u64 ad,.string q,.bool cp] 61))=J at *;have af:=m.gA.row s c;obtain⟨Av,cv,hv,cn,co,cq⟩:=BH af;have U:=CM m.gA.own s c Bf;rw[hv]at U;obtain⟨S,f⟩:∃S:World->Prop,S=fun W=>BL W gx 61 #[.int .i64 (s:Int),.int .i64 tt,.int .u64 aa,.int .u64 ab,.int .u64 ac,.int .u64 ad,.string q,.bool cp]/\BL W G 155 (Jg n (.slice N ns O) (.slice A2 ne P) (.slice (some ⟨g3,o3,none⟩) R Q) LA LE Bf Bf Bf ⟨#[]⟩ false)/\W.cell? ⟨LA,s,none⟩=some (.slice Av (rows s).length cv):=⟨_,rfl⟩
   have E:=fun W h1 h2 h3=>show S W by rw[f];exact⟨h1,h2,h3⟩
   have d:=fun W (h:S W)=>show BL W gx 61 #[.int .i64 (s:Int),.int .i64 tt,.int .u64 aa,.int .u64 ab,.int .u64 ac,.int .u64 ad,.string q,.bool cp]/\BL W G 155 (Jg n (.slice N ns O) (.slice A2 ne P) (.slice (some ⟨g3,o3,none⟩) R Q) LA LE Bf Bf Bf ⟨#[]⟩ false)/\W.cell? ⟨LA,s,none⟩=some (.slice Av (rows s).length cv)by rw[f]at h;exact h
   have z0:=fun p:Cr S=>(d p.w p.2).1.cell 0
   have z1:=fun p:Cr S=>(d p.w p.2).1.cell 1
   have z2:=fun p:Cr S=>(d p.w p.2).1.cell 2
   have z3:=fun p:Cr S=>(d p.w p.2).1.cell 3
   have z4:=fun p:Cr S=>(d p.w p.2).1.cell 4
   have z5:=fun p:Cr S=>(d p.w p.2).1.cell 5
   have z6:=fun p:Cr S=>(d p.w p.2).1.cell 6
   have z7:=fun p:Cr S=>(d p.w p.2).1.cell 7
   have zG:=fun p:Cr S=>(d p.w p.2).2.1.cell 4
   have zL:=fun p:Cr S=>(d p.w p.2).2.2
   have V:S J.drew:=E _ HG m.box U;clear f;have cr:Nonempty (Cr S):=⟨⟨_,V⟩⟩;go_wp2;refine Cs S 17 [0,1,2,3,4,5,6,7,8,9,10,11,12,13,14] [15,16] (by kernel_rfl) (by kernel_rfl) rfl (by kernel_rfl) V ?_;simp only[CV,A_,BA,Az,BI]
   repeat (go_big_quiet_step (fail))
   refine Ah ?_;clear z0 z1 z2 z3 z4 z5 z6 z7 zL zG;refine BU rfl (fun KK o=>?_);go_simp;have X:Below J.heap.size J (J.drew.alloc (.cells #[.int .i64 (k:Int)] 3)):=(AH _ J).drew.alloc (AD _) _;have H:=HG.below X (by omega);have b:=m.call X;have r:=CM b.gA.own s c Bf;rw[hv]at r;refine o _ _ (EW.of (E _ H b.box r)) ?_;clear o KK;have Y:=Bg J.drew [.int .i64 (k:Int)] 3 1 1 rfl;rw[show J.drew.heap.size=gx+1 from bg]at Y;have l:=b.gA.row s c;rw[hv]at l;have ag:=Mc (k:Int);have h63:(rows s).length+1<=maxLen:=by unfold maxLen;omega
   have bh:((rows s).length+1)*8<=140737488355328:=by omega
   have bi:W4.heap.size<=(J.drew.alloc (.cells #[.int .i64 (k:Int)] 3)).heap.size:=b.bel.size;obtain⟨ia,bj,ah,ai,aj⟩:=BK OA;refine BU rfl (fun KK o=>?_);refine DL _ _ _ 55 rfl W4.heap.size 3 ia _ 1 8 Tryz.underlying55 bj ah ai aj rfl (by decide) _ _ _ rfl l _ (some ⟨gx+1,0,none⟩) 1 1 [.int .i64 (k:Int)] rfl Y ag h63 bh bi ?_;intro v' w5 t y K;have a:=y;rw[<-hv]at a;have HW:=b.putA s c (k:Int) a t (by rw[hv];exact K);have k5:=b.gA.own.kept a (BG b.gA.own (b.gA.row s c) (by decide)).or_none;have A:=CM k5 s c Bf;have ak:=Df k5 s;rw[hv]at A;have al:=BM H a (AV (b.gA.row s c) H (by decide));have am:=BM b.box a (AV (b.gA.row s c) b.box (by decide));refine o _ _ (EW.of (E _ al am A)) ?_;clear o KK;obtain⟨bk,bl,rfl,_,_,_⟩:=BH t;clear t y a K Y l H al HG b m E d V k5 X U r am ae;refine Cc ?_;go_wp2;refine Be ?_;clear A ak;go_wp2;go_roundw
   case rel=>
    refine⟨k+1,vA.set s (.slice bk ((rows s).length+1) bl),vE,by omega,by go_num,?_⟩
    have e:IA u.arcs (k+1)=fun z=>if z=s then rows s++[(k:Int)]else rows z:=by
     funext z;rw[T.out z];by_cases hu:z=s
     .subst hu;rw[AU rfl,AU rfl]
     .rw [AP (show ¬((z:Int)=(s:Int))by omega),AP hu]
    rw[e];exact HW
   case measure=>simp[intOf];omega
  .obtain rfl:R=k:=by omega
   have bz:=AB C;have k2:=(Ja.below C.bel Ja.lt).cell 2;clear C;go_wp2;clear k2;go_loopw [47] (fun i wr=>∃(k:Nat) (vA vE:List Value),k<=ne/\i=.int .i64 ((k:Nat):Int)/\BgW W4 wr G LA LE n (.slice N ns O) (.slice A2 ne P) (.slice A3 R Q) vA vE (IA u.arcs R) (H9 u.ends k)) (fun i _=>ne-(intOf i).toNat)
   case atStart=>exact⟨0,_,_,AN _,rfl,bz.out⟩
   case round=>
    clear bz vA vE;obtain⟨k,vA,vE,hk,rfl,C⟩:=hrel;by_cases be:k<ne
    .have ch:(0:Int)<=(k:Int):=by omega
     have ci:(k:Int)<(ne:Int):=by omega
     obtain⟨g3,o3,rfl,cj,a0,a1⟩:=Dh (U2.below (C.bel.mono (by omega))) k be;have ap:k<u.ends.length:=by have:=bd.out;omega
     have hx:=HF.out.ends _ (getD_in u.ends DI k ap);obtain⟨s,hs⟩:∃s:Nat,(u.ends.getD k DI).st=(s:Int):=⟨_,(AT hx.1).symm⟩
     have c:s<n:=by omega
     have T:=AB (Qn u.ends k ap);have ck:(H9 u.ends k s).length<=1024:=AK (SD u.ends k s) (by have:=bd.out;omega);clear hx;generalize H9 u.ends k=rows at *;generalize u.ends.getD k DI=x at *;obtain⟨fr,q⟩:=x;simp only at hs a0 a1;subst hs;have cl:(0:Int)<=(s:Int):=by omega
     have cm:(s:Int)<(n:Int):=by omega
     have m:=C.call ((AH wr.heap.size wr).alloc (AD _) (.cells #[.int .i64 (s:Int),.string q] 54));have HG:=BL.new wr 54 #[.int .i64 (s:Int),.string q];have bx:=C.bel.size;have ae:=fun g (e:(vE.getD s Bf).ownBlock=some g)=>(own_lt (C.gE.row s c) g e).2
     clear C;go_wp2;clear a0 a1;generalize bf:wr.heap.size=gx at *;have bg:(wr.alloc (.cells #[.int .i64 (s:Int),.string q] 54)).heap.size=gx+1:=by rw[Ad,bf]
     generalize (wr.alloc (.cells #[.int .i64 (s:Int),.string q] 54))=J at *;have af:=m.gE.row s c;obtain⟨Av,cv,hv,cn,co,cq⟩:=BH af;have U:=CM m.gE.own s c Bf;rw[hv]at U;obtain⟨S,f⟩:∃S:World->Prop,S=fun W=>BL W gx 54 #[.int .i64 (s:Int),.string q]/\BL W G 155 (Jg n (.slice N ns O) (.slice (some ⟨g3,o3,none⟩) ne P) (.slice A3 R Q) LA LE Bf Bf Bf ⟨#[]⟩ false)/\W.cell? ⟨LE,s,none⟩=some (.slice Av (rows s).length cv):=⟨_,rfl⟩
     have E:=fun W h1 h2 h3=>show S W by rw[f];exact⟨h1,h2,h3⟩
     have d:=fun W (h:S W)=>show BL W gx 54 #[.int .i64 (s:Int),.string q]/\BL W G 155 (Jg n (.slice N ns O) (.slice (some ⟨g3,o3,none⟩) ne P) (.slice A3 R Q) LA LE Bf Bf Bf ⟨#[]⟩ false)/\W.cell? ⟨LE,s,none⟩=some (.slice Av (rows s).length cv)by rw[f]at h;exact h
     have z0:=fun p:Cr S=>(d p.w p.2).1.cell 0
     have z1:=fun p:Cr S=>(d p.w p.2).1.cell 1
     have zG:=fun p:Cr S=>(d p.w p.2).2.1.cell 5
     have zL:=fun p:Cr S=>(d p.w p.2).2.2
     have V:S J.drew:=E _ HG m.box U;clear f;have cr:Nonempty (Cr S):=⟨⟨_,V⟩⟩;go_wp2;refine Cs S 18 [0,1,2,3,4,5,6,7,8,9,10,11,12,13,14,15] [16,17] (by kernel_rfl) (by kernel_rfl) rfl (by kernel_rfl) V ?_;simp only[CV,A_,BA,Az,BI]
     repeat (go_big_quiet_step (fail))
     refine Ah ?_;clear z0 z1 zL zG;refine BU rfl (fun KK o=>?_);go_simp;have X:Below J.heap.size J (J.drew.alloc (.cells #[.string q] 9)):=(AH _ J).drew.alloc (AD _) _;have H:=HG.below X (by omega);have b:=m.call X;have r:=CM b.gE.own s c Bf;rw[hv]at r;refine o _ _ (EW.of (E _ H b.box r)) ?_;clear o KK;have Y:=Bg J.drew [.string q] 9 1 1 rfl;rw[show J.drew.heap.size=gx+1 from bg]at Y;have l:=b.gE.row s c;rw[hv]at l;have ag:=UX q;have h63:(rows s).length+1<=maxLen:=by unfold maxLen;omega
     have bh:((rows s).length+1)*16<=140737488355328:=by omega
     have bi:W4.heap.size<=(J.drew.alloc (.cells #[.string q] 9)).heap.size:=b.bel.size;obtain⟨ia,bj,ah,ai,aj⟩:=BK GI;refine BU rfl (fun KK o=>?_);refine DL _ _ _ 25 rfl W4.heap.size 9 ia _ 1 16 Tryz.underlying25 bj ah ai aj rfl (by decide) _ _ _ rfl l _ (some ⟨gx+1,0,none⟩) 1 1 [.string q] rfl Y ag h63 bh bi ?_;intro v' w5 t y K;have a:=y;rw[<-hv]at a;have HW:=b.putE s c q a t (by rw[hv];exact K);have k5:=b.gE.own.kept a (BG b.gE.own (b.gE.row s c) (by decide)).or_none;have A:=CM k5 s c Bf;have ak:=Df k5 s;rw[hv]at A;have al:=BM H a (AV (b.gE.row s c) H (by decide));have am:=BM b.box a (AV (b.gE.row s c) b.box (by decide));refine o _ _ (EW.of (E _ al am A)) ?_;clear o KK;obtain⟨bk,bl,rfl,_,_,_⟩:=BH t;clear t y a K Y l H al HG b m E d V k5 X U r am ae;refine Cc ?_;go_wp2;refine Be ?_;clear A ak;go_wp2;go_roundw
     case rel=>
      refine⟨k+1,vA,vE.set s (.slice bk ((rows s).length+1) bl),by omega,by go_num,?_⟩
      have e:H9 u.ends (k+1)=fun z=>if z=s then rows s++[q]else rows z:=by
       funext z;rw[T.out z];by_cases hu:z=s
       .subst hu;rw[AU rfl,AU rfl]
       .rw [AP (show ¬((z:Int)=(s:Int))by omega),AP hu]
      rw[e];exact HW
     case measure=>simp[intOf];omega
    .obtain rfl:ne=k:=by omega
     have hE:H9 u.ends ne=EX u.ends:=by rw[<-bd.out];exact SE _
     rw[hE]at C;have cs:w.heap.size<=G:=by have:=C.lG;omega
     have b0:w.heap.size<=W4.heap.size:=by omega
     have b5:=AB (show BgW W4 wr G LA LE n (.slice N ns O) (.slice A2 ne P) (.slice A3 R Q) vA vE (IA u.arcs u.arcs.length) (EX u.ends)from by have:=C;rw[show IA u.arcs R=IA u.arcs u.arcs.length by rw[bc.out]]at this;exact this);have an:=AB C;have dg:=C.bel.size;have HJ:=Ja.below C.bel Ja.lt;have k0:=HJ.cell 0;have aq:n*n<=32*32:=Dl au au;have hw:wrap64 ((n:Int)*(n:Int))=((n*n:Nat):Int):=by rw[Dk];exact FH _ (by rw[<-Dk];omega)
     obtain⟨I,bm⟩:∃I,I=n*n:=⟨_,rfl⟩
     have ct:=AB bm;rw[<-bm]at hw aq;clear bm;obtain⟨iH,cu,cw,cx,cy⟩:=BK X0v;obtain⟨iI,cz,c0,c4,c5⟩:=BK OA;have c6:iH.bytes*I<=281474976710656:=by rw[cy];exact AK (DZ 32 aq) (by decide)
     have c7:iI.bytes*I<=281474976710656:=by rw[c5];exact AK (DZ 8 aq) (by decide)
     have b6:I<=maxLen:=AK aq (by unfold maxLen;decide);have c8:w.heap.size≠G:=fun e=>by have:=C.lG;omega
     clear C;go_upto_region 13 with(at_make;refine Cw _ rfl _ _ 152 rfl wr.heap.size 208 iH _ 5 Tryz.underlying152 cu cw cx _ _ _ _ I rfl rfl hw hw c6 b6 (AD _) ?_;intro w6 ao ay;have D:=(AH wr.heap.size wr).grown ay (AD _) (fun k e=>by cases e);have q6:=(an.out.call D).box.cell 6;have c9:=(an.out.call D).box.frozen 6)
     have b7:=AB (show BL w6 wr.heap.size 208 (B_ MA (List.replicate I ED)).toArray from by have:=Ta ao;rw[<-X0u];exact this);clear q6 c9 ao ay k0;have b9:(w6.setCell ⟨G,6,none⟩ (.slice (some ⟨wr.heap.size,0,none⟩) I I)).heap.size=w6.heap.size:=by simp
     have dh:=an.out.box.lt;have ar:=((an.out.call D).box.set_ 6 (.slice (some ⟨wr.heap.size,0,none⟩) I I));have k0:=((HJ.below D HJ.lt).far (p:=⟨G,6,none⟩) c8 (.slice (some ⟨wr.heap.size,0,none⟩) I I)).cell 0;have hE:=AB (fun w8 b8 hP=>X2f (w0:=w) (w8:=w8) b0 hB b5.out ct.out U1 U3 cs D b7.out b8 hP);clear an b5 HJ D b7;generalize da:w6.setCell ⟨G,6,none⟩ (.slice (some ⟨wr.heap.size,0,none⟩) I I)=w7 at *;clear da;go_upto_region 14 with(at_make;refine Cw _ rfl _ _ 55 rfl w7.heap.size 3 iI _ 1 Tryz.underlying55 cz c0 c4 _ _ _ _ I rfl rfl hw hw c7 b6 (AD _) ?_;intro w8 Z az;have M:=(AH w7.heap.size w7).grown az (AD _) (fun k e=>by cases e);have q8:=(ar.below M ar.lt).cell 8;have db:=(ar.below M ar.lt).frozen 8)
     have bn:BL w8 w7.heap.size 3 ((List.replicate I (0:Int)).map (Value.int .i64)).toArray:=by rw[show(Value.int .i64 0).cells=#[Value.int .i64 0]from rfl,CG,BZ]at Z;rw[List.map_replicate];exact DG Z
     rw[b9]at bn M;have ca:=hE.out w8 (by rw[b9];exact M) bn;have bo:Sa u n w (.returned (.pointer (some ⟨G,0,none⟩))) (w8.setCell ⟨G,8,none⟩ (.slice (some ⟨w6.heap.size,0,none⟩) I I)):=by obtain⟨L,e1,e2,e3,e4,e5,e6⟩:=ca;refine⟨L,by rw[e1],e2,e3,by rw[e4,cf.out],e5,cd.trans (e6.mono (by omega))⟩
     have bo:=AB bo;clear q8 db ca bn hE M az Z;go_wp2;exact AQ (v:=.pointer (some ⟨G,0,none⟩)) (by simp[results,Tryz.results74,go_sem]) rfl bo.out
end
section
open Go.RowKit Go.Sort
theorem WN {u:Fs} {n:Nat} (h:Dq u=true) (c:u.n=(n:Int)) (h32:n<=32) (f:∀x∈u.arcs,Th x):Fit u n:=by obtain⟨s1,s2,s3,g,i,d,e,a⟩:=Kx h;rw[c]at d e a;exact⟨c,h32,fun x b=>⟨(a x b).1,(a x b).2.1,(a x b).2.2.1,(a x b).2.2.2.1,(a x b).2.2.2.2,(f x b).2.2.2.2.1⟩,e,d,s3⟩
def Ps (t:Fs) (w:World) (e:Ending) (w':World):Prop:=Below w.heap.size w w'/\∃(s:ByteArray) (b:Bool) (k:Int),e=.returned (.tuple #[.string s,.bool b,.int .i64 k]) /\(k=0->Dq t=true/\∃u f,Trims t u f/\Dq u=true/\(b=true->KH u)/\(b=false->Qw u))
def Uz (t:Fs) (w:World) (e:Ending) (w':World):Prop:=Below w.heap.size w w'/\∃(b:Bool) (k:Int),e=.returned (.tuple #[.bool b,.int .i64 k]) /\(k=0->Dq t=true/\∃u f,Trims t u f/\Dq u=true/\(b=false->KH u)/\(b=true->Qw u))
theorem X1D (t:Fs) (vt:Value) (B:Nat) (w:World) (D:EK w B t vt) (hB:B<=w.heap.size) (hT:∀W,Below w.heap.size w W->NT W) :Calls Tryz.prog 43 #[vt] w (Ps t w):=by
 have k:=D;obtain⟨A1,c1,A2,c2,A3,c3,rfl,h1,h2,h3,h4,h5,h6,h7,h8,R1,W1,R2,W2,R3,W3⟩:=D;have HT:=AB hT;have l:=BL.new w 32 #[.int .i64 t.n,.slice A1 t.starts.length c1,.slice A2 t.ends.length c2,.slice A3 t.arcs.length c3];have E:=(AH w.heap.size w).alloc (AD _) (.cells #[.int .i64 t.n,.slice A1 t.starts.length c1,.slice A2 t.ends.length c2,.slice A3 t.arcs.length c3] 32);have F:=AB (Ql t _ B _ (k.below (E.mono hB)) (AK hB E.size));have j0:=l.cell 0;have j1:=l.cell 1;have j2:=l.cell 2;have j3:=l.cell 3;clear R1 R2 R3 W1 W2 W3 hT k;go_enter Tryz.func43,Tryz.ntmps43
 go_wp2_with fail
 refine F.out.mono ?_;rintro e R ⟨u,r,⟨vu,rfl,hU,m,q⟩,G,Y,_⟩;have c:=l.below q l.lt;have H:=l.lt;have I:=fun v0 v1 v2 v3=>hU.freshSet4 m H v0 v1 v2 v3
 obtain⟨z,d1,A,d2,C,d3,rfl,e1,e2,e3,e4,e5,e6,e7,e8,U1,V1,U2,V2,U3,V3⟩:=hU;have o:=E.trans (q.mono E.size);have k0:=c.cell 0;have k1:=c.cell 1;have k2:=c.cell 2;have k3:=c.cell 3;have l0:=c.frozen 0;have l1:=c.frozen 1;have l2:=c.frozen 2;have S:=c.frozen 3;have Z:=AB (I (.int .i64 u.n) (.slice z u.starts.length d1) (.slice A u.ends.length d2) (.slice C u.arcs.length d3));have g:BL ((((R.setCell ⟨w.heap.size,0,none⟩ (.int .i64 u.n)).setCell ⟨w.heap.size,1,none⟩ (.slice z u.starts.length d1)).setCell ⟨w.heap.size,2,none⟩ (.slice A u.ends.length d2)).setCell ⟨w.heap.size,3,none⟩ (.slice C u.arcs.length d3)) w.heap.size 32 #[.int .i64 u.n,.slice z u.starts.length d1,.slice A u.ends.length d2,.slice C u.arcs.length d3]:=(((c.set_ 0 _).set_ 1 _).set_ 2 _).set_ 3 _;have b:=(((o.setCell (p:=⟨w.heap.size,0,none⟩) (AD _) (.int .i64 u.n)).setCell (p:=⟨w.heap.size,1,none⟩) (AD _) (.slice z u.starts.length d1)).setCell (p:=⟨w.heap.size,2,none⟩) (AD _) (.slice A u.ends.length d2)).setCell (p:=⟨w.heap.size,3,none⟩) (AD _) (.slice C u.arcs.length d3);have ae:((((R.setCell ⟨w.heap.size,0,none⟩ (.int .i64 u.n)).setCell ⟨w.heap.size,1,none⟩ (.slice z u.starts.length d1)).setCell ⟨w.heap.size,2,none⟩ (.slice A u.ends.length d2)).setCell ⟨w.heap.size,3,none⟩ (.slice C u.arcs.length d3)).heap.size=R.heap.size:=by simp
 have HV:=AB (AI V3 e4);have HR:=AB G;have HE:=AB (AI e1 e4);clear I U1 U2 U3 V1 V2 V3 m G F l c q E o;go_upto_region 2 with(fail)
 generalize ((((R.setCell ⟨w.heap.size,0,none⟩ (.int .i64 u.n)).setCell ⟨w.heap.size,1,none⟩ (.slice z u.starts.length d1)).setCell ⟨w.heap.size,2,none⟩ (.slice A u.ends.length d2)).setCell ⟨w.heap.size,3,none⟩ (.slice C u.arcs.length d3))=W4 at *;clear k0 k1 k2 k3 l0 l1 l2 S;rcases Y with rfl|rfl
 .obtain ⟨q1,T,f,q3⟩:=HR.out rfl
  have U:=AB (AI q1 (AI T q3));have J:=(Kx T).1;have K:=(Kx T).2.2.2.2.1;have m0:=g.cell 0;clear HR q1 T q3 e1 e2 e3 e5 e6;by_cases h32:u.n>32
  .have a:Ps t w (.returned (.tuple #[.string ⟨#[]⟩,.bool false,.int .i64 2])) W4:=⟨b,_,_,2,rfl,fun h=>by cases h⟩;have a:=AB a;go_wp2;exact AQ (v:=.tuple #[.string ⟨#[]⟩,.bool false,.int .i64 2]) (by simp[results,Tryz.results43,go_sem]) rfl a.out
  .obtain ⟨n,hn⟩:=Dr J
   have m1:=g.cell 1;have m2:=g.cell 2;have m3:=g.cell 3;have i:=WN U.out.2.1 hn (by omega) HV.out.1;have M:=AB (Ya u n _ _ W4 Z.out (AD _) i K);have aa:=AB i;have HN:=AB hn;clear i hn J K
   go_wp2_with fail
   refine M.out.mono ?_;rintro e w5 ⟨L,rfl,l1,rfl,S,hS,d⟩;have N:=AB (X1C hS aa.out (fun W V=>HT.out W (by rw[l1]at V;exact(b.trans (d.mono b.size)).trans (V.mono (by have:=b.size;have:=d.size;omega)))) (by rw[S];exact AK HE.out.1 HE.out.2));have H5:=AB (AI l1 d);clear l1 S hS d m0 m1 m2 m3 g M
   go_wp2_with fail
   refine N.out.mono ?_;rintro e w6 ⟨rfl,ab,af,ad,X,s,x,y,j,O,P⟩;have a:∀W,Below w6.heap.size w6 W->Ps t w (.returned (.tuple #[.string s,.bool x,.int .i64 0])) W:=fun W V=>by obtain⟨l1,d⟩:=H5.out;have z4:=b.size;have z5:=d.size;rw[l1]at j;refine⟨((b.trans (d.mono z4)).trans (j.mono z4)).trans (V.mono (by have:=j.size;omega)),s,x,0,rfl,fun _=>⟨U.out.1,u,f,U.out.2.2,U.out.2.1,O,P⟩⟩
   have a:=AB a;have r9:=AF (y.box.cell 9);have ac:=AF (y.box.cell 10);clear y j O P N H5;go_wp2;refine Au (by kernel_rfl) (by kernel_rfl) ?_
   repeat (go_big_quiet_step (fail))
   refine Ah ?_;intro w7 Q;have a:=AB (a.out w7 (Bu Q));clear Q r9 ac;go_wp2;exact AQ (v:=.tuple #[.string s,.bool x,.int .i64 0]) (by simp[results,Tryz.results43,go_sem]) rfl a.out
 .have a:Ps t w (.returned (.tuple #[.string ⟨#[]⟩,.bool false,.int .i64 1])) W4:=⟨b,_,_,1,rfl,fun h=>by cases h⟩;have a:=AB a;go_wp2;exact AQ (v:=.tuple #[.string ⟨#[]⟩,.bool false,.int .i64 1]) (by simp[results,Tryz.results43,go_sem]) rfl a.out
theorem X0w (t:Fs) (x:Value) (B:Nat) (w:World) (j:EK w B t x) (y:B<=w.heap.size) (z:∀W,Below w.heap.size w W->NT W) :Calls Tryz.prog 16 #[x] w (Uz t w):=by
 have c:=j;obtain⟨A,C,D,E,F,G,rfl,h1,h2,h3,h4,h5,h6,h7,h8,I,J,K,L,M,N⟩:=j;have l:=BL.new w 32 #[.int .i64 t.n,.slice A t.starts.length C,.slice D t.ends.length E,.slice F t.arcs.length G];have i:=(AH w.heap.size w).alloc (AD _) (.cells #[.int .i64 t.n,.slice A t.starts.length C,.slice D t.ends.length E,.slice F t.arcs.length G] 32);have m:=AB (X1D t _ B _ (c.below (i.mono y)) (AK y i.size) (fun W q=>z W (i.trans (q.mono i.size))));have d:=AB i;have O:=l.cell 0;have P:=l.cell 1;have Q:=l.cell 2;have R:=l.cell 3;clear I K M J L N z c i;go_enter Tryz.func16,Tryz.ntmps16
 go_wp2_with fail
 refine m.out.mono ?_;rintro e S ⟨o,s,b,k,rfl,H⟩;have q:=d.out.trans (o.mono d.out.size)
 have g:=AB (fun r (h:k=0->r=!b)=>show Uz t w (.returned (.tuple #[.bool r,.int .i64 k])) S from⟨q,r,k,rfl,fun h0=>by
  obtain⟨q1,u,f,T,U,V,X⟩:=H h0;have:=h h0;refine⟨q1,u,f,T,U,fun e=>V ?_,fun e=>X ?_⟩
  .rw [e]at this;cases b<;>first|rfl|cases this
  .rw [e]at this;cases b<;>first|rfl|cases this⟩)
 clear o H q l O P Q R m d;by_cases p:k=0
 .subst p
  rcases b with _|_
  .have a:=AB (g.out true fun _=>rfl);go_wp2;exact AQ (v:=.tuple #[.bool true,.int .i64 0]) (by simp[results,Tryz.results16,go_sem]) rfl a.out
  .have a:=AB (g.out false fun _=>rfl);go_wp2;exact AQ (v:=.tuple #[.bool false,.int .i64 0]) (by simp[results,Tryz.results16,go_sem]) rfl a.out
 .have a:=AB (g.out false fun h=>absurd h p);go_wp2;exact AQ (v:=.tuple #[.bool false,.int .i64 k]) (by simp[results,Tryz.results16,go_sem]) rfl a.out
end
end Go.Proofs.YtcondkihpmmnnaaGreatDoor
