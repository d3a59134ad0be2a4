/- Lemmas, part 19 of 50. No condition. -/
import Derived.Test.YtcondkihpmmnnaaGreatDoorTwin17
import Derived.Test.YtcondkihpmmnnaaGreatDoorTie
import Derived.Test.YtcondkihpmmnnaaGreatDoorCards
import Derived.LaidMore
import Derived.Stop.Joined
import Derived.SevenTiedAt
import Derived.Lib.LaidTab
set_option maxRecDepth 100000
set_option maxHeartbeats 16000000
namespace Go.Proofs.YtcondkihpmmnnaaGreatDoor
section
open Go.ChangeShapes Go.WideShapes Go.ChangeAt Go.WideMaps Go.WideElems Go.RowKit
def PK:List (String×DataW Unit):=[("math/bits.deBruijn32tab",Rows.laid_math_bits_deBruijn32tab),("math/bits.deBruijn64tab",Rows.laid_math_bits_deBruijn64tab),("internal/strconv.uint64pow10",Rows.laid_internal_strconv_uint64pow10)]
theorem tPow:(Tryz.prog.globals[2]?).map (·.type)=some 254:=by kernel_rfl
theorem X0N:(Rows.laid_internal_strconv_uint64pow10:DataW Unit)=Lib.tabData .u64 Lib.pow10Tab:=by rfl
theorem U_ {W:World} (h:laidMetH Tryz.prog PK W):Pow W W.heap.size:=by
 rw[MakeChecks.laidMetH_plain _ _ _ (by kernel_rfl)]at h;obtain⟨g,⟨_,_,_,_,_,_,_,_,_,_,⟨_,_,_,_,_,_,_,_,_,_,⟨g0,t0,f,f0,i,j,b,c,d,a,_⟩,_⟩,_⟩,_,_⟩:=h;obtain rfl:=AL (gPow.symm.trans b);obtain rfl:=AL (tPow.symm.trans c);have e:Lib.TabIs Tryz.prog W "internal/strconv.uint64pow10" .u64 Lib.pow10Tab:=by unfold Lib.TabIs;rw[X0N]at a;rw[d,<-Lib.cells_of_tab Tryz.underlying254 Tryz.underlying56 (by kernel_rfl) (by kernel_rfl) a]
 exact⟨e,GP (e.cell gPow 0 (by rw[Lib.pow10Tab_length];decide))⟩
theorem gTab:Tryz.prog.globalNamed "math/bits.deBruijn64tab"=some 1:=by kernel_rfl
theorem tTab:(Tryz.prog.globals[1]?).map (·.type)=some 248:=by kernel_rfl
theorem cTab:Tryz.prog.cellsOf 5=1:=by kernel_rfl
theorem Yp:(Rows.laid_math_bits_deBruijn64tab:DataW Unit)=.agg (Lib.deBruijn64tab.map fun n=>.lit (.int .u8 ((n:Nat):Int))):=rfl
theorem VA {W:World} (h:laidMetH Tryz.prog PK W):NT W:=by
 rw[MakeChecks.laidMetH_plain _ _ _ (by kernel_rfl)]at h;obtain⟨y,⟨_,_,_,_,_,_,_,_,_,_,⟨g0,t0,b,f0,z,A,d,i,l,m,_⟩,_⟩,_,_⟩:=h;obtain rfl:=AL (gTab.symm.trans d);obtain rfl:=AL (tTab.symm.trans i);obtain⟨xs,B,rfl,c,q,u,o⟩:=DataW.trod_array Tryz.underlying248 m;rw[Yp]at c;simp only[Prod.mk.injEq,DataW.agg.injEq]at c;intro j r;have e:j<xs.length:=by omega
 have h0:=o j r;rw[AG e,cTab,CG]at h0;obtain⟨k,f,v,_⟩:=DataW.trod_int Tryz.underlying5 h0;have p:(Lib.deBruijn64tab.map fun n=>(DataW.lit (.int .u8 ((n:Nat):Int)):DataW Unit))[j]?=some (.lit (.int .u8 k)):=by rw[c.1,Ag,AG e,v];rfl
 have g:j<Lib.deBruijn64tab.length:=r;rw[Ag,AG g]at p;simp only[DA,Dp,DataW.lit.injEq,Lit.int.injEq,true_and]at p;have w:=World.var?_cell d l j
 have x:b[j]?=some (.int .u8 k):=by
  have:(b.toList.drop j).head?=some (.int .u8 k):=by
   cases s:b.toList.drop j with
   | nil=>rw[s]at f;simp at f
   | cons a t=>rw[s]at f;simp at f;simp[f]
  rw[List.head?_drop]at this;simpa using this
 rw[w,x,<-p,AC,AG g];rfl
theorem NT.below {w w':World} (h:NT w) (b:Below w.heap.size w w'):NT w':=fun j a=>by rw[b.cell (GP (h j a))];exact h j a
theorem X0O (os:Os) (args:Array Value):laidMetH Tryz.prog PK ((World.doorLaid Tryz.prog 14 os).forCall (fun _ _=>0) ⟨#[],args,[]⟩).memory:=laidMetH_of_parts3 (fuel:=8) (laidMet_of_run' 8 (by kernel_rfl) (by kernel_rfl)) (by kernel_rfl) (by kernel_rfl)
theorem PW {H:Type} {enc:TypeId×Value->H} {os:Os} {f:FuncId} {fn:Func} {s:ChangeSpec} {tb:TypeId} (started:os.Started) (a:Tryz.checked.prog.inits.idxOf? f=none) (u:Tryz.checked.prog.funcs[f]?=some fn) (y:s.vars=[]) (L:∀ds:List (DataW H),ds.length=fn.params.size->s.fn H ds={ results:=[.lit (.bool true)],args:=ds }) (G:fn.resultTypes=#[tb]) (g:Tryz.checked.prog.underlying tb=some .bool) (z:(fn.params.toList.all fun t=>Tryz.checked.prog.readableRec t && decide (t<Tryz.checked.prog.types.size))=true) (witness:∃(w:World) (tape:Tape) (i:Input),w.os=os/\(w.forCall tape i).Shaped Tryz.checked.prog/\i.vars=[]/\Input.okWide Tryz.checked.prog (w.forCall tape i) .any w.heap.size f i /\((s.pre enc Tryz.checked.prog fn [] false (w.forCall tape i).memory i.args/\laidMetH Tryz.prog PK (w.forCall tape i).memory)/\sizedMet enc Tryz.checked.prog fn (OpenSpec.ofChange s) false (w.forCall tape i).memory i.args)/\({}:Assume).holds Tryz.checked.prog (lone (Frame.enter Tryz.checked.prog f i.args .normal) [] (w.forCall tape i))) (walk:∀(W:World) (base:Nat) (args:Array Value) (ds:List (DataW H)) (before:List MemPlace),(∀(j:Nat) t v,fn.params[j]?=some t->args[j]?=some v->Value.okWide Tryz.checked.prog W .any base t v) ->DataW.TrodAll enc Tryz.checked.prog W 0 (fun _=>true) true fn.params.toList args.toList ds before->(∀p∈before,p.block<W.heap.size) ->(DataW.weightsEach Tryz.checked.prog fn.params.toList ds).all (·<=reachBytes)=true->Pow W W.heap.size/\NT W ->Calls Tryz.checked.prog f args W (C7 (.bool true) W)) :ReturnsInHanded {} Tryz.checked os f .any (fun w args=>(s.pre enc Tryz.checked.prog fn [] false w args/\laidMetH Tryz.prog PK w)/\sizedMet enc Tryz.checked.prog fn (OpenSpec.ofChange s) false w args) (s.post enc Tryz.checked.prog fn false true false false):=by
 refine returnsInHanded_of_change_and (C:=Tryz.checked) (X:=fun w _=>laidMetH Tryz.prog PK w) (fun _ _ _ M h=>h.of_heap M) X1H started a u witness ?_;intro W base args ds gs before k A _ l I _;have N:laidOutB Tryz.checked.prog=true:=laidOut;have c:∀p∈before,p.block<W.heap.size:=fun p z=>A.lt p z
 have m:=A;rw[y]at m;obtain⟨p,q,B,O,rfl,_,_⟩:=m;obtain⟨rfl,rfl⟩:=trodVars_none O;simp only[BC]at c
 have n:(DataW.weightsEach Tryz.checked.prog fn.params.toList ds).all (·<=reachBytes)=true:=by
  have e:s.plain.varTypes Tryz.checked.prog=[]:=by simp[ChangeSpec.plain,DataSpec.varTypes,y]
  rw[e]at l;simpa using l
 have o:ds.length=fn.params.size:=by
  have:∀{r:List TypeId} {vs:List Value} {ds:List (DataW H)} {D:List MemPlace},DataW.TrodAll enc Tryz.checked.prog W 0 (fun _=>true) true r vs ds D->ds.length=r.length:=by
   intro r
   induction r with
   | nil=>intro vs ds D h;cases vs<;>cases ds<;>simp_all [DataW.TrodAll]
   | cons t r ih=>
    intro vs ds D h;cases vs with
    | nil=>simp[DataW.TrodAll]at h
    | cons v vs=>
     cases ds with
     | nil=>simp[DataW.TrodAll]at h
     | cons d ds=>obtain⟨_,_,_,h2,_⟩:=h;simpa using ih h2
  simpa using this B
 refine(walk W base args ds p k B c n ⟨U_ I,VA I⟩).mono fun e W' ⟨P,J⟩=>⟨_,P,?_⟩
 have E:s.fn H (ds++[])={ results:=[.lit (.bool true)],args:=ds }:=by rw[BC];exact L ds o
 refine Nc (pa:=p) (pv:=[]) A ?_ ?_ ?_ (by simp) J (ok_one G rfl (okWide_bool_mk g _))
 .intro b K R;rw[E,G];exact trodAll_mk1 (shut_bool g _)
 .intro K F;rw[E];exact Kj N J z B c (fun x Q=>F x (by simpa using Q))
 .intro K _;rw[E,y];rfl
end
end Go.Proofs.YtcondkihpmmnnaaGreatDoor
