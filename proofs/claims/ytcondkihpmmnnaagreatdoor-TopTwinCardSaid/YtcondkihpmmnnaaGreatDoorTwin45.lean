/- Lemmas, part 45 of 50. No condition. -/
import Derived.Test.YtcondkihpmmnnaaGreatDoorTwin43
set_option maxRecDepth 100000
set_option maxHeartbeats 16000000
namespace Go.Proofs.YtcondkihpmmnnaaGreatDoor
section
open Go.RowKit Go.Sort
def Iq (l:List Ar) (k s:Nat):List Ar:=(l.take k).filter fun x=>decide (x.fr=(s:Int))
theorem U6 (l:List Ar) (k s:Nat) (a:k<l.length):Iq l (k+1) s=if(s:Int)=(l.getD k Cq).fr then Iq l k s++[l.getD k Cq]else Iq l k s:=by
 unfold Iq;rw[Bq a,Ck,AC,AG a,DV];by_cases h:l[k].fr=(s:Int)
 .rw [AU h.symm,CD (by simpa using h)];rfl
 .rw [AP (fun x=>h x.symm),CE (by simpa using h)];simp
theorem Ns (l:List Ar) (k s:Nat):(Iq l k s).length<=k:=AK (CA _ _) (by rw[Cv];omega)
theorem RB {l:List Ar} {k s:Nat} {x:Ar} (h:x∈Iq l k s):x∈l/\x.fr=(s:Int):=by unfold Iq at h;rw[BV,Ca]at h;exact⟨DH h.1,h.2⟩
abbrev I_ (u:Fs) (s:Nat):List Ar:=Iq u.arcs u.arcs.length s
abbrev Ls (n:Nat) (v1 v2 v3:Value) (LR most bs:Nat):Array Value:=#[.int .i64 (n:Int),v1,v2,v3,.slice (some ⟨LR,0,none⟩) n n,.int .i64 (most:Int),.map (some bs)]
abbrev OW (lo bs:Nat) (k:Nat):Prop:=k<lo/\k≠bs
structure WkAt (lo bs G n LR most:Nat) (A1:Option Addr) (n1 c1:Nat) (v2 v3:Value) (u:Fs) (W:World):Prop where
 box:BL W G 105 (Ls n (.slice A1 n1 c1) v2 v3 LR most bs)
 lG:OW lo bs G
 st:DP (OW lo bs) W 2 A1 n1 (B_ CL u.starts)
 rows:GE (OW lo bs) Cx 8 W LR n (I_ u)
 l1:u.starts.length=n1
theorem WkAt.kept {lo bs G n b most:Nat} {c:Option Addr} {d e:Nat} {v2 v3:Value} {u:Fs} {W W':World} (h:WkAt lo bs G n b most c d e v2 v3 u W) (a:∀k,OW lo bs k->W'.heap[k]?=W.heap[k]?):WkAt lo bs G n b most c d e v2 v3 u W':=⟨(a _ h.lG).trans h.box,h.lG,h.st.kept a,h.rows.kept a,h.l1⟩
theorem WkAt.more {lo a bs G n d most:Nat} {e:Option Addr} {f g:Nat} {v2 v3:Value} {u:Fs} {W:World} (h:WkAt lo bs G n d most e f g v2 v3 u W) (j:lo<=a):WkAt a bs G n d most e f g v2 v3 u W:=
 have b:∀k,OW lo bs k->OW a bs k:=fun k i=>⟨Aj i.1 j,i.2⟩
 ⟨h.box,b _ h.lG,h.st.mono b,⟨b _ h.rows.1,fun s l=>by obtain⟨A,c,m,o,p,q⟩:=h.rows.2 s l;exact⟨A,c,m,o,p,q.mono b⟩⟩,h.l1⟩
def Marks (B:Nat) (W:World):List Deferred->Prop
 | []=>True
 | d::ds=>(∃D,d={ target:=.collected D,args:=#[] }/\B<=D/\W.heap[D]?=some (.deferred (some []))/\∀d'∈ds,∀D',d'.target=.collected D'->D'<D)/\Marks B W ds
theorem Marks.kept {B:Nat} {W W':World}:∀{ds:List Deferred},Marks B W ds->(∀D,B<=D->(∃d∈ds,d.target=.collected D)->W.heap[D]?=some (.deferred (some []))->W'.heap[D]?=some (.deferred (some [])))->Marks B W' ds
 | [],_,_=>trivial
 | d::ds,⟨⟨D,hd,hB,hW,hl⟩,hm⟩,hk=>by refine⟨⟨D,hd,hB,hk D hB ⟨d,BR,by rw[hd]⟩ hW,hl⟩,hm.kept fun f a g b=>hk f a ?_ b⟩;obtain⟨i,c,e⟩:=g;exact⟨i,CB _ c,e⟩
theorem Marks.keeps {B:Nat} {W W':World} {ds:List Deferred} (h:Marks B W ds) (a:KeepsFrom B W W'):Marks B W' ds:=h.kept fun D b _ c=>a.same D _ b c rfl
theorem Marks.below {B:Nat} {W W':World} {ds:List Deferred} (h:Marks B W ds) (b:Below W.heap.size W W'):Marks B W' ds:=h.kept fun D _ _ a=>(b.block D (BS.1 a).1).trans a
theorem Marks.lt {B:Nat} {W:World}:∀{ds:List Deferred},Marks B W ds->∀d∈ds,∀D,d.target=.collected D->D<W.heap.size
 | [],_,d,hd,_,_=>by cases hd
 | d::ds,⟨⟨D,e,_,hW,_⟩,hm⟩,d',hd',D',e'=>by
  rcases Bh.1 hd' with rfl|h
  .subst e
   injection e' with e'
   subst e';exact(BS.1 hW).1
  .exact hm.lt d' h D' e'
theorem Lt {β:Type} {J:β->World->Prop} {B:Nat} (c:OwnFrom B J) {s:β} {F:Fence} {n:Nat} {P:Program} {fn:Func} {tmps:Array Value} {R:Ending->World->Prop} (f:∀W',J s W'->LeavesInM F n P fn tmps R [] .returning W') :∀(ds:List Deferred) (W:World),Marks B W ds->J s W->LeavesInM F n P fn tmps R ds .returning W
 | [],W,_,h=>f W h
 | d::ds,W,⟨⟨D,e,hB,hW,hl⟩,hm⟩,h=>by subst e;refine⟨by simp,.inl ⟨D,_,rfl,run_takeDeferred hW,Lt c f ds _ (hm.kept fun g i j a=>?_) (c.putObj _ h hB hW rfl)⟩⟩;obtain⟨k,b,l⟩:=j;have:=hl k b g l;exact(CX (by omega)).trans a
structure NxW {α:Type} (J:List α->World->Prop) (lo hi bR bs l By:Nat) (W0:World) (pre:List α) (ds:List Deferred) (wr:World):Prop where
 j:J pre wr
 old:∀k,OW lo bs k->wr.heap[k]?=W0.heap[k]?
 wp:RU bR wr
 yb:Sure hi bR wr By 160 #[.func (.yield l) #[] #[]]
 mks:Marks W0.heap.size wr ds
 sz:W0.heap.size<=wr.heap.size
section
variable {α:Type} {J:List α->World->Prop} {lo hi bR bs l By:Nat} {W0:World} {pre:List α} {ds:List Deferred} {wr w':World}
theorem NxW.below (h:NxW J lo hi bR bs l By W0 pre ds wr) (c:OwnFrom W0.heap.size J) (d:lo<=W0.heap.size) (a:Below wr.heap.size wr w'):NxW J lo hi bR bs l By W0 pre ds w':=⟨c _ _ _ none h.j ⟨a.os,a.tape,a.output,a.size,fun k b _=>a.block k b⟩ (fun r e=>by cases e),fun k b=>(a.block k (by have:=h.sz;have:=b.1;omega)).trans (h.old k b),h.wp.below a,h.yb.below h.wp a,h.mks.below a,AK h.sz a.size⟩
theorem NxW.mark (h:NxW J lo hi bR bs l By W0 pre ds wr) {D:Nat} (b:wr.heap[D]?=some (.deferred (some []))) (c:W0.heap.size<=D) (e:∀d∈ds,∀a,d.target=.collected a->a<D):NxW J lo hi bR bs l By W0 pre ({ target:=.collected D,args:=#[] }::ds) wr:=⟨h.j,h.old,h.wp,h.yb,⟨⟨D,rfl,c,b,e⟩,h.mks⟩,h.sz⟩
end
end
end Go.Proofs.YtcondkihpmmnnaaGreatDoor
