/- Lemmas, part 37 of 39. No condition. -/
import Derived.Test.YtcondkihpmmnnaaGreatDoorUniqueP34
import Derived.Test.YtcondkihpmmnnaaGreatDoorUniqueP36
import Derived.Test.YtcondkihpmmnnaaGreatDoorUniqueP28
import Derived.Laws.CopyOwn
import Derived.Test.YtcondkihpmmnnaaGreatDoorUniqueP33
import Derived.Test.YtcondkihpmmnnaaGreatDoorUniqueP14
import Derived.Test.YtcondkihpmmnnaaGreatDoorUniqueP24
import Derived.Test.YtcondkihpmmnnaaGreatDoorUniqueP18
namespace Go.Proofs.YtcondkihpmmnnaaGreatDoor
open Go.RowKit Go.Sort
theorem push_any (q:SeqM) (v:Value) (B:Nat) (w:World) (HS:SeqAt w B q v) (hB:B≤w.heap.size):Calls Tryz.prog 33 #[v] w (PushPost q w):=by
 rcases hck:ckB q with _ | _
 ·exact push_bad q v B w HS hB hck
 ·exact push_good q v B _ w HS hB rfl hck
def MinPost (q:SeqM) (w:World) (e:Ending) (w':World):Prop :=
 Below w.heap.size w w'∧∃ (v:Value) (r:SeqM) (c:Int),e = .returned (.tuple #[v,.int .i64 c])∧SeqNew w.heap.size w' r v ∧
  ((ckB q = false∧c = 1∧r = seq0)∨(ckB q = true∧((c = 2∧r = seq0∧∃ k,Fronts q k∧LongQ q k)∨(c = 0∧((r = seq0∧∀ x,q.run x = none)∨(Canon r∧ckB r = true∧∀ x,r.run x = q.run x))))))
set_option maxRecDepth 100000 in
theorem min_ret {R:Ending→World→Prop} {tmps:Array Value} {gq:Nat} {c0 c1 c2 c3 c4 k:Value} {W:World} (h4:tmps[2]? = some (.pointer (some ⟨gq,0,none⟩))) (h5:tmps[3]? = some k)
    (hq:Blk W gq 27 #[c0,c1,c2,c3,c4]) (h:R (.returned (.tuple #[.agg #[c0,c1,c2,c3,c4],k])) W):bodyPost Tryz.prog Tryz.f13 R Exit.ret ⟨tmps,[]⟩ W:=by
 have q0:=hq.cell 0
 have q1:=hq.cell 1
 have q2:=hq.cell 2
 have q3:=hq.cell 3
 have q4:=hq.cell 4
 exact bodyPost_ret (v:=.tuple #[.agg #[c0,c1,c2,c3,c4],k]) (by simp [results,Tryz.results13,go_sem,q0,q1,q2,q3,q4,h4,h5]) rfl h
theorem run_none {q:SeqM} {k:Frt} (hf:Fronts q k) (h:q.next.length = 0∨k.some 0 = false) (x:List UInt8):q.run x = none:=by
 unfold SeqM.run
 by_cases h0:q.next.length = 0
 ·rw [if_pos h0]
 ·rw [if_neg h0]
  rcases hr:q.runL 0 x with _ | o
  ·rfl
  ·have:=(hf.live 0 (by omega)).2 ⟨o,x,hr⟩
   rw [h.resolve_left h0] at this
   cases this
section
variable {q:SeqM} {n c:Nat} {m:Nat→Nat} {xs:List Nat} {pl:Nat→Int}
theorem min_ck (hck:ckB q = true) (hn:q.next.length = n) (hP:PartsOk q n m c) (hO:OrdI q n c m xs pl xs.length 0) (hT:Tight q):ckB (minM q m pl xs) = true:=by
 obtain ⟨s1,s2⟩:=min_small hck hn hP hO
 have hC:=min_canon hck hn hP hO hT
 obtain ⟨p1,p2,p3,p4,p5,p6⟩:=ck_parts hck
 obtain ⟨l1,l2,l3⟩:=hC.lens
 have hpos:=hC.pos
 unfold ckB
 simp only [Bool.and_eq_true,Bool.or_eq_true,decide_eq_true_eq,List.all_eq_true]
 refine ⟨⟨⟨⟨⟨⟨by rw [minM_len]; omega,l1⟩,l2⟩,l3⟩,p5⟩,.inl (by omega)⟩,fun i hi => ?_⟩
 have hi:=List.mem_range.1 hi
 obtain ⟨t1,t2,t3,t4⟩:=s2 i (by rwa [minM_len] at hi)
 unfold stB rowB entB
 simp only [Bool.and_eq_true,Bool.or_eq_true,decide_eq_true_eq,List.all_eq_true]
 refine ⟨⟨t1,?_⟩,⟨t2,t3⟩,fun b hb => ?_⟩
 ·rcases he:(minM q m pl xs).en i with _ | _
  ·right
   have:=hC.open_ i hi he
   show ((minM q m pl xs).tl i).size = 0
   rw [this]; rfl
  ·left; exact he
 ·have hb:=List.mem_range.1 hb
  obtain ⟨u1,u2,u3⟩:=t4 b hb
  refine ⟨⟨⟨u1,by rw [minM_len]; exact u2⟩,u3⟩,?_⟩
  by_cases h0:(minM q m pl xs).nx i b < 0
  ·right
   have:=(hC.no i b hi hb h0).2
   show ((minM q m pl xs).os i b).size = 0
   rw [this]; rfl
  ·left
   intro e
   have:(minM q m pl xs).nx i b = -1:=e
   omega
end
theorem eg_pickB:∀ args w,(callFunc 36 args).run Tryz.prog w = .ok (.enter 36 args) w:=enters_of Tryz.func36 (by kernel_rfl) rfl
theorem eg_pickS:∀ args w,(callFunc 37 args).run Tryz.prog w = .ok (.enter 37 args) w:=enters_of Tryz.func37 (by kernel_rfl) rfl
theorem maker_alloc {Q:Exit→Act→World→Prop} {base:Act} {w:World} {ds:List Tmp} {o:Oper} {d:Tmp} (hd:o.dst = some d) (hg:o.guard = none) (T:TypeId) (cs:Array Value) (hop:o.op = Op.alloc T)
    (hrun:∀ W,(Instr.alloc T true (.tuple #[])).run Tryz.prog W = .ok (.pointer (some ⟨W.heap.size,0,none⟩)) (W.alloc (.cells cs T))) :
    Maker Tryz.prog Q base w ds o d (fun v W => ∃ g,v = .pointer (some ⟨g,0,none⟩)∧w.heap.size≤g∧Blk W g T cs):=by
 refine ⟨hd,hg,?_,?_⟩
 ·rintro v W W' ⟨g,rfl,hgz,ho⟩ hb
  exact ⟨g,rfl,hgz,ho.below hb ho.lt⟩
 ·intro act W K hag hb hK
  unfold Oper.wp
  simp [execOp,hop,hrun,Result.andThen]
  show K (act.put o.dst _) _
  rw [hd]
  exact hK _ _ ((Below.refl _ W).alloc (Nat.le_refl _) _) ⟨W.heap.size,rfl,hb.size,Blk.new W T cs⟩
theorem wpList_copy_full {P:Program} {w:World} {ops:Array Oper} {rest:List Oper} {o:Oper} {a:Act} {Q:Exit→Act→World→Prop} (hgd:o.guard = none) (d s:Operand) (dT sT:TypeId)
    (ho:o.op = .call { callee:=.builtin .copy,args:=#[d,s],argTypes:=#[dT,sT] }) (elem:TypeId) (hu:P.underlying dT = some (.slice elem)) (hsz:(P.info? elem).map (·.size) = some 1)
    (g n dCap sCap:Nat) (ad:Addr) (hd:a.eval d = .slice (some ⟨g,0,none⟩) n dCap) (hs:a.eval s = .slice (some ad) n sCap)
    (cur:Array Value) (t:TypeId) (hg:Blk w g t cur) (hcur:cur.size = n) (cs:List Value) (hn:cs.length = n)
    (hsrc:∀ j v,cs[j]? = some v→w.cell? (ad.add j) = some v) (h1:∀ v∈cs,v.oneCell' = true)
    (h:∀ w',Hid (Blk w' g t cs.toArray)→w.grownBy w' (some g)→wpList P ops Q rest (a.put o.dst (goInt n)) w'):wpList P ops Q (o :: rest) a w:=by
 refine wpList_copy_own hgd d s dT sT ho elem hu hsz g 0 n dCap ad n sCap hd hs cur t hg cs (by simp [hn]) hsrc (by omega) h1 ?_
 have e:(cur.toList.take 0 ++ (cs ++ cur.toList.drop (0 + cs.length))).toArray = cs.toArray:=by
  rw [List.take_zero,List.nil_append,List.drop_eq_nil_of_le (by simp; omega),List.append_nil]
 rw [e,hn]
 exact h _ (show Blk _ g t cs.toArray from setRow_heap w g _ _ t _ hg) ⟨rfl,rfl,rfl,by simp [World.setRow],fun k _ hk => setRow_other w g k _ (fun e => hk (by rw [e]))⟩
def MinRows (q:SeqM) (m:Nat→Nat) (pl:Nat→Int) (xs:List Nat) (i:Nat) (N:List (List Int)) (O:List (List ByteArray)):Prop :=
 N = (xs.take i).map (fun s => (List.range 256).map (minRow q m pl s))∧O = (xs.take i).map (fun s => q.outs.getD s [])
theorem MinRows.start {q:SeqM} {m:Nat→Nat} {pl:Nat→Int} {xs:List Nat}:MinRows q m pl xs 0 [] []:=⟨rfl,rfl⟩
theorem MinRows.len {q:SeqM} {m:Nat→Nat} {pl:Nat→Int} {xs:List Nat} {i:Nat} {N:List (List Int)} {O:List (List ByteArray)} (h:MinRows q m pl xs i N O):N.length≤xs.length∧O.length≤xs.length:=by
 obtain ⟨rfl,rfl⟩:=h
 simp; omega
theorem MinRows.put {q:SeqM} {m:Nat→Nat} {pl:Nat→Int} {xs:List Nat} {i s:Nat} {N:List (List Int)} {O:List (List ByteArray)} (h:MinRows q m pl xs i N O) (hs:xs[i]? = some s) :
    MinRows q m pl xs (i + 1) (N ++ [(List.range 256).map (minRow q m pl s)]) (O ++ [q.outs.getD s []]):=by
 obtain ⟨rfl,rfl⟩:=h
 unfold MinRows
 rw [List.take_add_one,hs]
 simp
theorem MinRows.seq {q:SeqM} {m:Nat→Nat} {pl:Nat→Int} {xs:List Nat} {N:List (List Int)} {O:List (List ByteArray)} (h:MinRows q m pl xs xs.length N O):minM q m pl xs = ⟨q.front,N,O,xs.map q.en,xs.map q.tl⟩:=by
 obtain ⟨rfl,rfl⟩:=h
 unfold minM
 rw [List.take_length]
theorem map_row {α:Type} (f:α→Value) (d:α) {L:List α} (h:L.length = 256):L.map f = rowV (fun b => f (L.getD b d)) 256:=by
 unfold rowV
 apply List.ext_getElem?
 intro j
 rw [List.getElem?_map,List.getElem?_map]
 by_cases hj:j < 256
 ·rw [List.getElem?_range hj,List.getElem?_eq_getElem (show j < L.length by omega)]
  show some (f L[j]) = some (f (L.getD j d))
  rw [List.getD_eq_getElem?_getD,List.getElem?_eq_getElem (show j < L.length by omega)]; rfl
 ·rw [List.getElem?_eq_none (by omega),List.getElem?_eq_none (by simp; omega)]; rfl
theorem rowV_maps {α:Type} (f:α→Value) (g:Nat→α) (xs:List Nat):(xs.map g).map f = rowV (fun i => f (g (xs.getD i 0))) xs.length:=by
 unfold rowV
 apply List.ext_getElem?
 intro j
 rw [List.getElem?_map,List.getElem?_map,List.getElem?_map]
 by_cases hj:j < xs.length
 ·rw [List.getElem?_range hj,List.getElem?_eq_getElem hj]
  show some (f (g xs[j])) = some (f (g (xs.getD j 0)))
  rw [List.getD_eq_getElem?_getD,List.getElem?_eq_getElem hj]; rfl
 ·rw [List.getElem?_eq_none (by omega),List.getElem?_eq_none (by simp; omega)]; rfl
theorem TrnW.putN {W0 wr w':World} {gN gO:Nat} {fn:Nat→Int} {fo:Nat→ByteArray} (h:TrnW W0 wr gN gO fn fo) {fn':Nat→Int} (hb:Blk w' gN 3 (intsV fn' 256)) (hg:wr.grownBy w' (some gN)):TrnW W0 w' gN gO fn' fo :=
 ⟨hb,blk_keep h.o hg (fun e => Blk.ne_ h.n h.o (by decide) (Option.some.inj e)),h.bn,h.bo,h.bel.grown hg h.bel.size (fun k hk => by rw [← Option.some.inj hk]; exact h.bn)⟩
theorem TrnW.putO {W0 wr w':World} {gN gO:Nat} {fn:Nat→Int} {fo:Nat→ByteArray} (h:TrnW W0 wr gN gO fn fo) {fo':Nat→ByteArray} (hb:Blk w' gO 9 (strsV fo' 256)) (hg:wr.grownBy w' (some gO)):TrnW W0 w' gN gO fn fo' :=
 ⟨blk_keep h.n hg (fun e => Blk.ne_ h.o h.n (by decide) (Option.some.inj e)),hb,h.bn,h.bo,h.bel.grown hg h.bel.size (fun k hk => by rw [← Option.some.inj hk]; exact h.bo)⟩
theorem SqB.ofE {W0 W:World} {gr:Nat} {fr:ByteArray} {vE vT:Value} {E:List Bool} {T:List ByteArray} (hb:Blk W gr 27 #[.string fr,nilV,nilV,vE,vT]) (hg:W0.heap.size≤gr) (hbel:Below W0.heap.size W0 W)
    (hE:W.ownsRow W0.heap.size 4 1 vE E.length (E.map Value.bool)) (hT:W.ownsRow W0.heap.size 9 1 vT T.length (T.map Value.string)):SqB W0 W gr fr nilV nilV vE vT [] [] [] [] E T :=
 ⟨hb,World.ownsRow_nil _ _ _ _,World.ownsRow_nil _ _ _ _,hE,hT,fun _i h => absurd h (Nat.not_lt_zero _),fun _i h => absurd h (Nat.not_lt_zero _),fun _i h => absurd h (Nat.not_lt_zero _),hg,hbel⟩
end Go.Proofs.YtcondkihpmmnnaaGreatDoor
namespace Go.Proofs.YtcondkihpmmnnaaGreatDoor
open Go.RowKit Go.Sort
theorem far_set5 {gq g:Nat} {W:World} {T:TypeId} {cs:Array Value} (h:Blk W g T cs) (hn:g≠gq) (v0 v1 v2 v3 v4:Value):Blk (((((W.setCell ⟨gq,0,none⟩ v0).setCell ⟨gq,1,none⟩ v1).setCell ⟨gq,2,none⟩ v2).setCell ⟨gq,3,none⟩ v3).setCell ⟨gq,4,none⟩ v4) g T cs :=
 ((((h.far (p:=⟨gq,0,none⟩) hn v0).far (p:=⟨gq,1,none⟩) hn v1).far (p:=⟨gq,2,none⟩) hn v2).far (p:=⟨gq,3,none⟩) hn v3).far (p:=⟨gq,4,none⟩) hn v4
theorem own_set5 {gq base n size:Nat} {W:World} {e:TypeId} {v:Value} {xs:List Value} (h:W.ownsRow base e size v n xs) (hn:v.ownBlock≠some gq) (v0 v1 v2 v3 v4:Value):(((((W.setCell ⟨gq,0,none⟩ v0).setCell ⟨gq,1,none⟩ v1).setCell ⟨gq,2,none⟩ v2).setCell ⟨gq,3,none⟩ v3).setCell ⟨gq,4,none⟩ v4).ownsRow base e size v n xs :=
 own_setCell (own_setCell (own_setCell (own_setCell (own_setCell h hn v0) hn v1) hn v2) hn v3) hn v4
theorem seqNew_set5 {B gq:Nat} {W:World} {q:SeqM} {v:Value} (h:SeqNew B W q v) (hp:gq < B) (v0 v1 v2 v3 v4:Value):SeqNew B (((((W.setCell ⟨gq,0,none⟩ v0).setCell ⟨gq,1,none⟩ v1).setCell ⟨gq,2,none⟩ v2).setCell ⟨gq,3,none⟩ v3).setCell ⟨gq,4,none⟩ v4) q v :=
 ((((h.setCell (p:=⟨gq,0,none⟩) hp v0).setCell (p:=⟨gq,1,none⟩) hp v1).setCell (p:=⟨gq,2,none⟩) hp v2).setCell (p:=⟨gq,3,none⟩) hp v3).setCell (p:=⟨gq,4,none⟩) hp v4
set_option maxRecDepth 100000 in
set_option maxHeartbeats 8000000 in
theorem min_any (q:SeqM) (v:Value) (B:Nat) (w:World) (HS:SeqAt w B q v) (hB:B≤w.heap.size) (hP:Pow w w.heap.size) :
    Calls Tryz.prog 13 #[v] w (MinPost q w):=by
 have HSat:=Lib.hid (fun W (hb:Below w.heap.size w W) => (HS.below (hb.mono hB)).more (Nat.le_trans hB hb.size))
 obtain ⟨A1,c1,A2,c2,A3,c3,A4,c4,rfl,hf,l1,l2,l3,l4,m1,m2,m3,m4,R1,hz,R2,hsz,R3,R4,htl⟩:=HS
 have hpush:=Lib.hid (fun W hb => push_any q _ W.heap.size W (HSat.out W hb) (Nat.le_refl _))
 have hfin:=Lib.hid (fun (W:World) (hb:Below w.heap.size w W) (c:Int) (h:(ckB q = false∧c = 1)∨(ckB q = true∧((c = 2∧∃ k,Fronts q k∧LongQ q k)∨(c = 0∧∀ x,q.run x = none)))) => show MinPost q w (.returned (.tuple #[.agg #[.string ⟨#[]⟩,.slice none 0 0,.slice none 0 0,.slice none 0 0,.slice none 0 0],.int .i64 c])) W from
  ⟨hb,_,seq0,c,rfl,seqNew_nil _ _,by
   rcases h with ⟨h1,h2⟩ | ⟨h1,⟨h2,h3⟩ | ⟨h2,h3⟩⟩
   ·exact .inl ⟨h1,h2,rfl⟩
   ·exact .inr ⟨h1,.inl ⟨h2,rfl,h3⟩⟩
   ·exact .inr ⟨h1,.inr ⟨h2,.inl ⟨rfl,h3⟩⟩⟩⟩)
 clear R1 R2 R3 R4 hz hsz htl HSat l1 l2 l3 l4 m1 m2 m3 m4
 generalize q.front = fr at *
 generalize q.next.length = n1 at *
 generalize q.outs.length = n2 at *
 generalize q.ends.length = n3 at *
 generalize q.tail.length = n4 at *
 have B0:Below w.heap.size w ((w.alloc (.cells #[.string fr,.slice A1 n1 c1,.slice A2 n2 c2,.slice A3 n3 c3,.slice A4 n4 c4] 27)).alloc (.cells #[.string ⟨#[]⟩,.slice none 0 0,.slice none 0 0,.slice none 0 0,.slice none 0 0] 27)) :=
  ((Below.refl _ w).alloc (Nat.le_refl _) _).alloc (by simp) _
 have Ja:=(Blk.new w 27 #[.string fr,.slice A1 n1 c1,.slice A2 n2 c2,.slice A3 n3 c3,.slice A4 n4 c4]).alloc (.cells #[.string ⟨#[]⟩,.slice none 0 0,.slice none 0 0,.slice none 0 0,.slice none 0 0] 27)
 have Jr:=Blk.new (w.alloc (.cells #[.string fr,.slice A1 n1 c1,.slice A2 n2 c2,.slice A3 n3 c3,.slice A4 n4 c4] 27)) 27 #[.string ⟨#[]⟩,.slice none 0 0,.slice none 0 0,.slice none 0 0,.slice none 0 0]
 simp only [World.size_alloc] at Jr
 have j0:=Ja.cell 0
 have j1:=Ja.cell 1
 have j2:=Ja.cell 2
 have j3:=Ja.cell 3
 have j4:=Ja.cell 4
 go_enter Tryz.func13,Tryz.ntmps13
 go_wp2_with fail
 refine (hpush.out _ B0).mono ?_
 rintro e w1 ⟨hb1,v1,r,c,rfl,hq1,hcase⟩
 simp only [World.size_alloc] at hq1 hb1
 have hqn:w.heap.size + 1≠w.heap.size:=by omega
 have Ja1:=Ja.below (hb1.mono (by simp)) Ja.lt
 have Jr1:=Jr.below (hb1.mono (by simp)) Jr.lt
 have B1:=B0.trans (hb1.mono (by omega))
 have hlt1:=Jr1.lt
 clear B0 Ja Jr hb1
 have j0:=Ja1.cell 0
 have j1:=Ja1.cell 1
 have j2:=Ja1.cell 2
 have j3:=Ja1.cell 3
 have j4:=Ja1.cell 4
 have l0:=Ja1.frozen 0
 have l1:=Ja1.frozen 1
 have l2:=Ja1.frozen 2
 have l3:=Ja1.frozen 3
 have l4:=Ja1.frozen 4
 have r0:=Jr1.cell 0
 have r1:=Jr1.cell 1
 have r2:=Jr1.cell 2
 have r3:=Jr1.cell 3
 have r4:=Jr1.cell 4
 have g0:=Jr1.frozen 0
 have g1:=Jr1.frozen 1
 have g2:=Jr1.frozen 2
 have g3:=Jr1.frozen 3
 have g4:=Jr1.frozen 4
 rcases hcase with ⟨hck,rfl,rfl⟩ | ⟨hck,k,hfr,⟨rfl,rfl,hno⟩ | ⟨rfl,rfl,hlg⟩ | ⟨rfl,hckr,us,hpu⟩⟩
 ·have HF:=Lib.hid (fun W hb => hfin.out W hb 1 (.inl ⟨hck,rfl⟩))
  clear hck
  obtain ⟨D1,d1,D2,d2,D3,d3,D4,d4,hv,_⟩:=hq1.at_
  have hv:v1 = .agg #[.string ⟨#[]⟩,.slice D1 0 d1,.slice D2 0 d2,.slice D3 0 d3,.slice D4 0 d4]:=hv
  subst hv
  clear hq1
  go_wp2_with fail
  exact min_ret rfl rfl (blk_set5 (far_set5 Jr1 hqn _ _ _ _ _) _ _ _ _ _) (HF.out _ (below_set5 (below_set5 B1 (Nat.le_refl _) _ _ _ _ _) (by omega) _ _ _ _ _))
 ·have HF:=Lib.hid (fun W hb => hfin.out W hb 0 (.inr ⟨hck,.inr ⟨rfl,run_none hfr hno⟩⟩))
  clear hck hno hfr
  obtain ⟨D1,d1,D2,d2,D3,d3,D4,d4,hv,_⟩:=hq1.at_
  have hv:v1 = .agg #[.string ⟨#[]⟩,.slice D1 0 d1,.slice D2 0 d2,.slice D3 0 d3,.slice D4 0 d4]:=hv
  subst hv
  clear hq1
  go_wp2_with fail
  exact min_ret rfl rfl (blk_set5 (far_set5 Jr1 hqn _ _ _ _ _) _ _ _ _ _) (HF.out _ (below_set5 (below_set5 B1 (Nat.le_refl _) _ _ _ _ _) (by omega) _ _ _ _ _))
 ·have HF:=Lib.hid (fun W hb => hfin.out W hb 2 (.inr ⟨hck,.inl ⟨rfl,k,hfr,hlg⟩⟩))
  clear hck hlg hfr
  obtain ⟨D1,d1,D2,d2,D3,d3,D4,d4,hv,_⟩:=hq1.at_
  have hv:v1 = .agg #[.string ⟨#[]⟩,.slice D1 0 d1,.slice D2 0 d2,.slice D3 0 d3,.slice D4 0 d4]:=hv
  subst hv
  clear hq1
  go_wp2_with fail
  exact min_ret rfl rfl (blk_set5 (far_set5 Jr1 hqn _ _ _ _ _) _ _ _ _ _) (HF.out _ (below_set5 (below_set5 B1 (Nat.le_refl _) _ _ _ _ _) (by omega) _ _ _ _ _))
 ·obtain ⟨p1,p2,p3,p4,p5,p6⟩:=ck_parts hckr
  have hrz:∀ s b,s < q.next.length→b < 256→q.nx s b < (q.next.length:Int):=fun s b hs hb => (ckB_nx hck hs hb).2.1
  have hT:=hpu.tight hfr hrz
  have hrun:=Lib.hid (hpu.run hfr hrz)
  have hn0:0 < r.next.length:=by
   have:=some_lt hpu.first
   have:=hpu.n
   omega
  obtain ⟨n,hn⟩:∃ n,r.next.length = n:=⟨_,rfl⟩
  have hfin2:=Lib.hid (fun (W:World) (hb:Below w.heap.size w W) (v:Value) (m':SeqM) (hq:SeqNew w.heap.size W m' v) (hc:Canon m') (hk:ckB m' = true) (hr:∀ x,m'.run x = r.run x) => show MinPost q w (.returned (.tuple #[v,.int .i64 0])) W from
   ⟨hb,v,m',0,rfl,hq,.inr ⟨hck,.inr ⟨rfl,.inr ⟨hc,hk,fun x => (hr x).trans (hrun.out x)⟩⟩⟩⟩)
  obtain ⟨D1,d1,D2,d2,D3,d3,D4,d4,rfl,hfm,o1,o2,o3,o4,M1,M2,M3,M4,_⟩:=hq1.at_
  rw [p2,p3,p4,hn] at hq1 ⊢
  rw [hn] at p1 hn0 o1 p6
  rw [p2,hn] at o2
  rw [p3,hn] at o3
  rw [p4,hn] at o4
  have HR:=Lib.hid (And.intro hckr (And.intro hn (And.intro p2 (And.intro p3 (And.intro p4 (And.intro hT p6))))))
  generalize hrfe:r.front = rf at *
  have Hrf:=Lib.hid hrfe
  clear hck hpu hfr hrz hrun hckr hT hn p2 p3 p4 p5 p6 hfin hrfe us k
  go_upto_region 2 with (fail)
  have Ja2:=blk_set5 Ja1 (.string rf) (.slice D1 n d1) (.slice D2 n d2) (.slice D3 n d3) (.slice D4 n d4)
  have Jr2:=far_set5 Jr1 hqn (.string rf) (.slice D1 n d1) (.slice D2 n d2) (.slice D3 n d3) (.slice D4 n d4)
  have B2:=below_set5 B1 (Nat.le_refl _) (.string rf) (.slice D1 n d1) (.slice D2 n d2) (.slice D3 n d3) (.slice D4 n d4)
  have hq2:=seqNew_set5 hq1 (show w.heap.size < w.heap.size + 1 + 1 by omega) (.string rf) (.slice D1 n d1) (.slice D2 n d2) (.slice D3 n d3) (.slice D4 n d4)
  clear j0 j1 j2 j3 j4 l0 l1 l2 l3 l4 r0 r1 r2 r3 r4 g0 g1 g2 g3 g4 Ja1 Jr1 B1 hq1
  generalize ((((((w1.setCell ⟨w.heap.size,0,none⟩ (.string rf)).setCell ⟨w.heap.size,1,none⟩ (.slice D1 n d1)).setCell ⟨w.heap.size,2,none⟩ (.slice D2 n d2)).setCell ⟨w.heap.size,3,none⟩ (.slice D3 n d3)).setCell ⟨w.heap.size,4,none⟩ (.slice D4 n d4))) = W1 at *
  have hpa:=Lib.hid (parts_any r _ W1.heap.size n W1 hq2.at_ (Nat.le_refl _) HR.out.1 HR.out.2.1 ((hP.below B2).mono B2.size) HR.out.2.2.2.2.2.1)
  have hne:((n:Int) == 0) = false:=by simp; omega
  have k0:=Ja2.cell 0
  have k1:=Ja2.cell 1
  have k2:=Ja2.cell 2
  have k3:=Ja2.cell 3
  have k4:=Ja2.cell 4
  go_wp2_with fail
  refine hpa.out.mono ?_
  rintro e w2 ⟨gm,m,cc,rfl,HM,hgm,hb2,hPO⟩
  have Ja3:=Ja2.below hb2 Ja2.lt
  have Jr3:=Jr2.below hb2 Jr2.lt
  have B3:=B2.trans (hb2.mono B2.size)
  have hq3:=hq2.below hb2
  have hor:=Lib.hid (order_any r _ w2.heap.size n cc gm m w2 hq3.at_ (Nat.le_refl _) HR.out.1 HR.out.2.1 hn0 HM hPO)
  have HPO:=Lib.hid hPO
  clear hpa hPO Ja2 Jr2 B2 hq2 k0 k1 k2 k3 k4 hgm
  have k0:=Ja3.cell 0
  have k1:=Ja3.cell 1
  have k2:=Ja3.cell 2
  have k3:=Ja3.cell 3
  have k4:=Ja3.cell 4
  go_wp2_with fail
  refine hor.out.mono ?_
  rintro e w3 ⟨vS,xs,gP,pl,rfl,HO,HPl,hgP,hb3,hOr⟩
  obtain ⟨As,cs,rfl,hs1,hs2,hs3⟩:=own_form HO
  have Ja4:=Ja3.below hb3 Ja3.lt
  have Jr4:=Jr3.below hb3 Jr3.lt
  have B4:=B3.trans (hb3.mono B3.size)
  have HM4:=HM.below hb3 HM.lt
  have hq4:=hq3.below hb3
  obtain ⟨E1,t1,E2,t2,E3,t3,E4,t4,hve,_,_,_,_,_,_,_,_,_,R1,_,R2,_,R3,R4,_⟩:=hq4.at_
  have hve:(D1 = E1∧d1 = t1)∧(D2 = E2∧d2 = t2)∧(D3 = E3∧d3 = t3)∧(D4 = E4∧d4 = t4):=by
   simp only [Value.agg.injEq,Array.mk.injEq,List.cons.injEq,Value.slice.injEq,and_true] at hve
   exact ⟨⟨hve.2.1.1,hve.2.1.2.2⟩,⟨hve.2.2.1.1,hve.2.2.1.2.2⟩,⟨hve.2.2.2.1.1,hve.2.2.2.1.2.2⟩,⟨hve.2.2.2.2.1,hve.2.2.2.2.2.2⟩⟩
  obtain ⟨⟨rfl,rfl⟩,⟨rfl,rfl⟩,⟨rfl,rfl⟩,⟨rfl,rfl⟩⟩:=hve
  rw [HR.out.2.1] at R1
  rw [HR.out.2.2.1,HR.out.2.1] at R2
  rw [HR.out.2.2.2.1,HR.out.2.1] at R3
  rw [HR.out.2.2.2.2.1,HR.out.2.1] at R4
  have hxc:=hOr.len HPO.out.lt
  have hccn:cc≤n:=onto_le HPO.out.onto
  have HXs:=Reads.of_own HO
  have hpos:0 < xs.length:=some_lt hOr.first
  have hxn:∀ x∈xs,x < n:=fun x hx => by
   obtain ⟨j,hj⟩:=List.getElem?_of_mem hx
   exact (hOr.lt j x hj).1
  have hpB:=Lib.hid (fun (W:World) (hb:Below w3.heap.size w3 W) => pickB_any r.ends xs D3 As n d3 xs.length cs w3.heap.size W (R3.below hb) (HXs.below hb) hb.size hxn (by omega) p1 (by omega) hs1)
  have hpS:=Lib.hid (fun (W:World) (hb:Below w3.heap.size w3 W) => pickS_any r.tail xs D4 As n d4 xs.length cs w3.heap.size W (R4.below hb) (HXs.below hb) hb.size hxn (by omega) p1 (by omega) hs1)
  have hza:∀ W,(Instr.alloc 27 true (.tuple #[])).run Tryz.prog W = .ok (.pointer (some ⟨W.heap.size,0,none⟩)) (W.alloc (.cells #[.string ⟨#[]⟩,.slice none 0 0,.slice none 0 0,.slice none 0 0,.slice none 0 0] 27)):=fun W => by simp [go_sem]
  have HXr:=Lib.hid (And.intro R1 (And.intro R2 (And.intro HXs (And.intro HM4 HPl))))
  have HOr:=Lib.hid (And.intro hOr hxn)
  have HJ:=Lib.hid (And.intro Ja4 (And.intro Jr4 B4))
  have x0:=cell_regrown (Ja4.cell 0)
  have x3:=cell_regrown (Ja4.cell 3)
  have x4:=cell_regrown (Ja4.cell 4)
  have hz3:=B4.size
  have hlt4:=Jr4.lt
  clear R1 R2 R3 R4 HXs HO HM HM4 HPl hq3 hb2 hb3 Ja3 Jr3 B3 k0 k1 k2 k3 k4 hs2 hs3 Ja4 Jr4 B4 hgP hor hq4 hxn hOr
  generalize hxl:xs.length = xl at *
  have HXL:=Lib.hid hxl
  go_wp2
  refine four_below (mk:=fun x y => .agg #[.string rf,.slice none 0 0,.slice none 0 0,x,y]) (d0:=48) (d1:=52) (d2:=53) (d3:=9)
   (F0:=fun v W => ∃ g,v = .slice (some ⟨g,0,none⟩) xl xl∧w3.heap.size≤g∧Blk W g 4 (bV (fun i => r.ends.getD (xs.getD i 0) false) xl))
   (F1:=fun v W => ∃ g,v = .slice (some ⟨g,0,none⟩) xl xl∧w3.heap.size≤g∧Blk W g 9 (strsV (fun i => r.tail.getD (xs.getD i 0) ByteArray.empty) xl))
   (F3:=fun v W => ∃ g,v = .pointer (some ⟨g,0,none⟩)∧w3.drew.heap.size≤g∧Blk W g 27 #[.string ⟨#[]⟩,.slice none 0 0,.slice none 0 0,.slice none 0 0,.slice none 0 0])
   12 [0,1,2,3,4,6,7,8] 5 9 10 11 (by kernel_rfl) (by kernel_rfl) rfl (by kernel_rfl) (by decide) rfl rfl rfl rfl (by decide) ?_
  simp only [pickOps,List.getElem?_cons_zero,List.getElem?_cons_succ]
  repeat (go_big_quiet_step (fail))
  refine wpQuiet_nil ?_
  refine four_start (by decide) ⟨⟨by show 48 < 110; decide,by show 52 < 110; decide⟩,?_,?_,maker_alloc rfl rfl 27 _ rfl hza,rfl,?_,?_⟩
  ·refine maker_call2 rfl rfl 46 47 (by decide) (by decide) 36 _ rfl eg_pickB ?_ ?_
   ·rintro v W W' ⟨g,rfl,h1,h2⟩ hb
    exact ⟨g,rfl,h1,h2.below hb h2.lt⟩
   ·intro W hb
    refine Calls.mono (hpB.out W ((Below.refl _ w3).drew.trans hb)) ?_
    rintro e W' ⟨g,rfl,h1,h2,h3⟩
    exact ⟨_,rfl,h3,g,rfl,Nat.le_trans hb.size h2,h1⟩
  ·refine maker_call2 rfl rfl 50 51 (by decide) (by decide) 37 _ rfl eg_pickS ?_ ?_
   ·rintro v W W' ⟨g,rfl,h1,h2⟩ hb
    exact ⟨g,rfl,h1,h2.below hb h2.lt⟩
   ·intro W hb
    refine Calls.mono (hpS.out W ((Below.refl _ w3).drew.trans hb)) ?_
    rintro e W' ⟨g,rfl,h1,h2,h3⟩
    exact ⟨_,rfl,h3,g,rfl,Nat.le_trans hb.size h2,h1⟩
  ·rintro a W v0 v1 K ⟨gE,rfl,_,_⟩ ⟨gT,rfl,_,_⟩ e0 e1 hag hK
   have e4:a.eval (.tmp 44) = .string rf:=(hag 44 (by decide)).trans rfl
   change Oper.wp Tryz.prog (⟨some 53,Op.build 27 #[(0,.tmp 44),(3,.tmp 48),(4,.tmp 52)],_,_,_,none⟩:Oper) a W K _
   unfold Oper.wp
   simp only [execOp,List.map_toArray,List.map_cons,List.map_nil,e0,e1,e4]
   simp [go_sem]
   exact hK
  ·rintro v0 v1 v3 W5 hb5 ⟨gE,rfl,hgE,hE⟩ ⟨gT,rfl,hgT,hT⟩ ⟨gr,rfl,hgr,hR⟩
   simp only [Act.put,List.drop_succ_cons,List.drop_zero]
   have hgr':w3.heap.size≤gr:=hgr
   have q0:=hR.cell 0
   have q1:=hR.cell 1
   have q2:=hR.cell 2
   have q3:=hR.cell 3
   have q4:=hR.cell 4
   have f0:=hR.frozen 0
   have f1:=hR.frozen 1
   have f2:=hR.frozen 2
   have f3:=hR.frozen 3
   have f4:=hR.frozen 4
   have hEl:(xs.map r.en).length = xl:=by rw [List.length_map]; exact hxl
   have hTl:(xs.map r.tl).length = xl:=by rw [List.length_map]; exact hxl
   have oE:W5.ownsRow w3.heap.size 4 1 (.slice (some ⟨gE,0,none⟩) xl xl) xl ((xs.map r.en).map Value.bool):=by
    have e:bV (fun i => r.ends.getD (xs.getD i 0) false) xl = ((xs.map r.en).map Value.bool).toArray:=by
     unfold bV; rw [rowV_maps,hxl]; rfl
    rw [e] at hE
    have:=own_ofBlk (base:=w3.heap.size) hgE hE (by rw [List.length_map,hEl]; unfold maxLen; omega)
    rwa [List.length_map,hEl] at this
   have oT:W5.ownsRow w3.heap.size 9 1 (.slice (some ⟨gT,0,none⟩) xl xl) xl ((xs.map r.tl).map Value.string):=by
    have e:strsV (fun i => r.tail.getD (xs.getD i 0) ByteArray.empty) xl = ((xs.map r.tl).map Value.string).toArray:=by
     unfold strsV; rw [rowV_maps,hxl]; rfl
    rw [e] at hT
    have:=own_ofBlk (base:=w3.heap.size) hgT hT (by rw [List.length_map,hTl]; unfold maxLen; omega)
    rwa [List.length_map,hTl] at this
   have oE':W5.ownsRow w3.heap.size 4 1 (.slice (some ⟨gE,0,none⟩) xl xl) (xs.map r.en).length ((xs.map r.en).map Value.bool):=by rw [hEl]; exact oE
   have oT':W5.ownsRow w3.heap.size 9 1 (.slice (some ⟨gT,0,none⟩) xl xl) (xs.map r.tl).length ((xs.map r.tl).map Value.string):=by rw [hTl]; exact oT
   have HB:=SqB.ofE (W0:=w3) (blk_set5 hR (.string rf) nilV nilV (.slice (some ⟨gE,0,none⟩) xl xl) (.slice (some ⟨gT,0,none⟩) xl xl)) hgr' (below_set5 hb5 hgr' _ _ _ _ _)
    (own_set5 oE' (own_blk oE' hR (by decide)) _ _ _ _ _) (own_set5 oT' (own_blk oT' hR (by decide)) _ _ _ _ _)
   have HBh:=Lib.hid HB
   clear hR hE hT oE oT oE' oT' HB
   go_wp2
   refine NoPanic.normal ?_
   go_wp2
   clear q0 q1 q2 q3 q4 f0 f1 f2 f3 f4
   go_loopw [56] (fun i wq => ∃ (k:Nat) (vN vO:Value) (nv ov:List Value) (N:List (List Int)) (O:List (List ByteArray)),k≤xl∧i = .int .i64 (k:Int)∧SqB w3 wq gr rf vN vO (.slice (some ⟨gE,0,none⟩) xl xl) (.slice (some ⟨gT,0,none⟩) xl xl) nv ov N O (xs.map r.en) (xs.map r.tl)∧MinRows r m pl xs k N O) (fun i _ => xl - (intOf i).toNat)
   case atStart => exact ⟨0,nilV,nilV,[],[],[],[],Nat.zero_le _,rfl,HBh.out,MinRows.start⟩
   case round =>
    clear HBh hEl hTl
    obtain ⟨k,vN,vO,nv,ov,N,O,hk,rfl,HB,hM⟩:=hrel
    obtain ⟨An,cn,rfl,vn1,vn2,_⟩:=own_form HB.oN
    obtain ⟨Ao,co,rfl,vo1,vo2,_⟩:=own_form HB.oO
    have HLn:=Lib.hid (show N.length≤1024∧O.length≤1024 by have:=hM.len; omega)
    have hwz:=HB.bel.size
    by_cases hlt:k < xl
    ·obtain ⟨s,hs⟩:∃ s,xs[k]? = some s:=⟨_,List.getElem?_eq_getElem (by omega)⟩
     have hsn:=(HOr.out.1.lt k s hs).1
     have hget:xs.getD k 0 = s:=by rw [List.getD_eq_getElem?_getD,hs]; rfl
     obtain ⟨ga,oa,rfl,hga,a1⟩:=cell_at (d:=0) (enc:=fun z:Nat => Value.int .i64 (z:Int)) (show Reads w3 w3.heap.size 1 As xl (xs.map fun z:Nat => Value.int .i64 (z:Int)) from HXr.out.2.2.1) k hlt
     rw [hget] at a1
     obtain ⟨g1,o1',A1',e1',rfl,hg1,x1,Q1,y1,z1⟩:=HXr.out.1.at_ s hsn
     obtain ⟨g2,o2',A2',e2',rfl,hg2,x2,Q2,y2,z2⟩:=HXr.out.2.1.at_ s hsn
     have en1:(r.next.map fun r => r.map (Value.int .i64)).getD s [] = (r.next.getD s []).map (Value.int .i64):=by
      rw [List.getD_eq_getElem?_getD,List.getD_eq_getElem?_getD,List.getElem?_map]
      cases r.next[s]? <;> rfl
     have en2:(r.outs.map fun r => r.map Value.string).getD s [] = (r.outs.getD s []).map Value.string:=by
      rw [List.getD_eq_getElem?_getD,List.getD_eq_getElem?_getD,List.getElem?_map]
      cases r.outs[s]? <;> rfl
     rw [en1] at x1 Q1 y1
     rw [en2] at x2 Q2 y2
     simp only [List.length_map] at x1 Q1 y1 x2 Q2 y2
     obtain ⟨hl1,hl2⟩:=HR.out.2.2.2.2.2.2 s hsn
     rw [hl1] at x1 Q1 y1
     rw [hl2] at x2 Q2 y2
     obtain ⟨ad1,rfl,had1,hc1⟩:=Q1.2 (by decide)
     obtain ⟨ad2,rfl,had2,hc2⟩:=Q2.2 (by decide)
     rw [map_row (Value.int .i64) 0 hl1] at hc1
     rw [map_row Value.string ByteArray.empty hl2] at hc2
     have HSrc:=Lib.hid (fun (W:World) (hb:Below w3.heap.size w3 W) => And.intro (fun (j:Nat) (u:Value) (h:(rowV (fun b => Value.int .i64 (r.nx s b)) 256)[j]? = some u) => (hb.cell (p:=ad1.add j) (by rw [show (ad1.add j).block = ad1.block from by unfold Addr.add; split <;> rfl]; exact had1)).trans (hc1 j u h)) (fun (j:Nat) (u:Value) (h:(rowV (fun b => Value.string (r.os s b)) 256)[j]? = some u) => (hb.cell (p:=ad2.add j) (by rw [show (ad2.add j).block = ad2.block from by unfold Addr.add; split <;> rfl]; exact had2)).trans (hc2 j u h)))
     have HX12:=Lib.hid (And.intro x1 x2)
     have HO2:=Lib.hid (map_row Value.string ByteArray.empty hl2)
     have Hs:=Lib.hid hs
     have hi1:(0:Int)≤(k:Int):=by omega
     have hi2:(k:Int) < (xl:Int):=by omega
     have hi3:(0:Int)≤(s:Int):=by omega
     have hi4:(s:Int) < (n:Int):=by omega
     have a2:=(HB.bel.cell (p:=⟨ga,oa + k,none⟩) (by show ga < _; exact hga)).trans a1
     obtain ⟨iN,hiN,hN0,hN1,hN2⟩:=info_parts int_infoS
     obtain ⟨iO,hiO,hO0,hO1,hO2⟩:=info_parts str_infoS
     have HBh:=Lib.hid HB
     have HMh:=Lib.hid hM
     clear hc1 hc2 Q1 Q2 x1 x2 en1 en2 hget hs a1 hM hl1 hl2 y1 y2 z1 z2
     obtain ⟨Wk,hWk⟩:∃ Wk,Wk = wr:=⟨_,rfl⟩
     subst hWk
     go_wp2
     clear a2
     refine pair_below (d0:=60) (d1:=61) (e0:=12) (by kernel_rfl) (by kernel_rfl) (by decide) (by decide) (by decide) ⟨by show 60 < 110; decide,by show 61 < 110; decide⟩
      (maker_sliceC rfl rfl 256 55 rfl 3 iN _ 1 Tryz.underlying55 hiN hN0 hN1 (by rw [hN2]; decide) (by unfold maxLen; decide))
      (maker_sliceC rfl rfl 256 25 rfl 9 iO _ 1 Tryz.underlying25 hiO hO0 hO1 (by rw [hO2]; decide) (by unfold maxLen; decide)) rfl rfl rfl ?_
     rintro vi vj w6 hb6' ⟨gN,rfl,gN1,hoN⟩ ⟨gO,rfl,gO1,hoO⟩
     rw [show (Value.int .i64 0).cells = #[Value.int .i64 0] from rfl,Nat.mul_one,toList_madeCells_one,rowV_const] at hoN
     rw [show (Value.string ByteArray.empty).cells = #[Value.string ByteArray.empty] from rfl,Nat.mul_one,toList_madeCells_one,rowV_const] at hoO
     have HT0:TrnW Wk w6 gN gO (fun _ => 0) (fun _ => ByteArray.empty):=⟨blk_of_made hoN,blk_of_made hoO,gN1,gO1,hb6'⟩
     have hbw6:=HBh.out.bel.trans (hb6'.mono HBh.out.bel.size)
     have c1:=(HJ.out.1.below hbw6 HJ.out.1.lt).cell 1
     have c2:=(hbw6.cell (p:=⟨g1,o1' + s,none⟩) (by show g1 < _; exact hg1)).trans HX12.out.1
     have hszi:(Tryz.prog.info? 3).map (·.size) = some 1:=by rw [hiN]; simp [hN1]
     have hszs:(Tryz.prog.info? 9).map (·.size) = some 1:=by rw [hiO]; simp [hO1]
     have hsr1:=(HSrc.out w6 hbw6).1
     have HT:=HT0.n
     have hT0:=Lib.hid HT0
     have hone1:∀ v∈rowV (fun b => Value.int .i64 (r.nx s b)) 256,v.oneCell' = true:=fun v hv => by
      unfold rowV at hv
      obtain ⟨b,_,rfl⟩:=List.mem_map.1 hv
      rfl
     have hone2:∀ v∈rowV (fun b => Value.string (r.os s b)) 256,v.oneCell' = true:=fun v hv => by
      unfold rowV at hv
      obtain ⟨b,_,rfl⟩:=List.mem_map.1 hv
      rfl
     have hcl:(intsV (fun _ => 0) 256).size = 256:=by unfold intsV; rw [List.size_toArray,rowV_len]
     clear hoN hoO gN1 gO1 hb6' HT0 hiN hN0 hN1 hN2 hiO hO0 hO1 hO2
     simp only [Act.put]
     go_wp2
     refine NoPanic.normal ?_
     go_upto_region 12 with (with_reducible refine wpList_copy_full (o:=⟨some 68,_,_,_,_,_⟩) rfl (.tmp 62) (.tmp 67) 55 55 rfl 3 Tryz.underlying55 hszi gN 256 256 e1' ad1 rfl rfl _ _ HT hcl (rowV (fun b => Value.int .i64 (r.nx s b)) 256) (rowV_len _ _) hsr1 hone1 ?_; intro w7 hb7 hg7)
     have HT7:=hT0.out.putN (fn':=fun b => r.nx s b) (show Blk w7 gN 3 (intsV (fun b => r.nx s b) 256) from hb7.out) hg7
     have hbw7:=HBh.out.bel.trans (HT7.bel.mono HBh.out.bel.size)
     have c3:=(HJ.out.1.below hbw7 HJ.out.1.lt).cell 2
     have c4:=(hbw7.cell (p:=⟨g2,o2' + s,none⟩) (by show g2 < _; exact hg2)).trans HX12.out.2
     have hsr2:=(HSrc.out w7 hbw7).2
     have HTo:=HT7.o
     have hT7:=Lib.hid HT7
     have hcl2:(strsV (fun _ => ByteArray.empty) 256).size = 256:=by unfold strsV; rw [List.size_toArray,rowV_len]
     clear c1 c2 hsr1 HT hone1 hcl hb7 hg7 HT7 hT0
     go_upto_region 13 with (with_reducible refine wpList_copy_full (o:=⟨some 75,_,_,_,_,_⟩) rfl (.tmp 69) (.tmp 74) 25 25 rfl 9 Tryz.underlying25 hszs gO 256 256 e2' ad2 rfl rfl _ _ HTo hcl2 (rowV (fun b => Value.string (r.os s b)) 256) (rowV_len _ _) hsr2 hone2 ?_; intro w8 hb8 hg8)
     have HT8:=Lib.hid (hT7.out.putO (fo':=fun b => r.os s b) (show Blk w8 gO 9 (strsV (fun b => r.os s b) 256) from hb8.out) hg8)
     clear c3 c4 hsr2 HTo hone2 hcl2 hb8 hg8 hT7
     go_wp2
     go_loopw [78] (fun i wq => ∃ (b:Nat) (fn:Nat→Int),b≤256∧i = .int .i64 (b:Int)∧TrnW Wk wq gN gO fn (fun b => r.os s b)∧∀ j,j < 256→fn j = if j < b then minRow r m pl s j else r.nx s j) (fun i _ => 256 - (intOf i).toNat)
     case atStart => exact ⟨0,_,Nat.zero_le _,rfl,HT8.out,fun j _ => by rw [if_neg (Nat.not_lt_zero _)]⟩
     case round =>
      clear HT8
      obtain ⟨b,fn,hb,rfl,HW,hfn⟩:=hrel
      have Hfn:=Lib.hid hfn
      clear hfn
      by_cases hltb:b < 256
      ·have hb1:(0:Int)≤(b:Int):=by omega
       have hb2:(b:Int) < 256:=by omega
       have hfb:fn b = r.nx s b:=by rw [Hfn.out b hltb,if_neg (Nat.lt_irrefl _)]
       have u1:=(HW.n.cell b).trans (intsV_at _ hltb)
       have u2:=HW.n.frozen b
       rw [hfb] at u1
       have hzz:=ckB_nx HR.out.1 (s:=s) (by rw [HR.out.2.1]; exact hsn) hltb
       rw [HR.out.2.1] at hzz
       have hz1:=hzz.1
       have hz2:=hzz.2.1
       clear hzz
       by_cases hneg:r.nx s b < 0
       ·have HN:=Lib.hid (show ∀ j,j < 256→fn j = if j < b + 1 then minRow r m pl s j else r.nx s j from fun j hj => by
          rw [Hfn.out j hj]
          by_cases e:j = b
          ·subst e
           rw [if_neg (Nat.lt_irrefl _),if_pos (by omega)]
           unfold minRow; rw [if_pos hneg]
          ·by_cases e2:j < b
           ·rw [if_pos e2,if_pos (by omega)]
           ·rw [if_neg e2,if_neg (by omega)])
        have HWh:=Lib.hid HW
        have hge:¬ r.nx s b ≥ 0:=by omega
        clear HW hfb
        generalize r.nx s b = z at *
        go_wp2
        go_roundw
        case rel => exact ⟨b + 1,fn,by omega,by go_num,HWh.out,HN.out⟩
        case measure => simp [intOf]; omega
       ·obtain ⟨z,hz⟩:∃ z:Nat,r.nx s b = (z:Int):=⟨_,(Int.toNat_of_nonneg (by omega)).symm⟩
        have hzn:z < n:=by omega
        have hmz:=HPO.out.lt z hzn
        have hbwq:=HBh.out.bel.trans (HW.bel.mono HBh.out.bel.size)
        have a1:=((HXr.out.2.2.2.1.below hbwq HXr.out.2.2.2.1.lt).cell z).trans (iV_at m hzn)
        have a2:=((HXr.out.2.2.2.2.below hbwq HXr.out.2.2.2.2.lt).cell (m z)).trans (intsV_at pl hmz)
        have HN:=Lib.hid (show ∀ j,j < 256→(if j = b then pl (m z) else fn j) = if j < b + 1 then minRow r m pl s j else r.nx s j from fun j hj => by
         by_cases e:j = b
         ·subst e
          rw [if_pos rfl,if_pos (by omega)]
          unfold minRow; rw [if_neg hneg,hz,Int.toNat_natCast]
         ·rw [if_neg e,Hfn.out j hj]
          by_cases e2:j < b
          ·rw [if_pos e2,if_pos (by omega)]
          ·rw [if_neg e2,if_neg (by omega)])
        have HWh:=Lib.hid (HW.setN b hltb (pl (m z)))
        have hzi1:(0:Int)≤(z:Int):=by omega
        have hzi2:(z:Int) < (n:Int):=by omega
        have hge:(z:Int) ≥ 0:=by omega
        have hmi1:(0:Int)≤(m z:Int):=by omega
        have hmi2:(m z:Int) < (cc:Int):=by omega
        rw [hz] at u1 hneg
        clear HW hfb hz hz1 hz2
        generalize m z = mz at *
        generalize pl mz = pz at *
        go_wp2
        go_roundw
        case rel => exact ⟨b + 1,_,by omega,by go_num,HWh.out,HN.out⟩
        case measure => simp [intOf]; omega
      ·obtain rfl:b = 256:=by omega
       have hbN:Blk wr gN 3 (intsV (minRow r m pl s) 256):=by
        have:intsV fn 256 = intsV (minRow r m pl s) 256:=by
         unfold intsV
         rw [rowV_congr (fun j hj => by rw [Hfn.out j hj,if_pos hj])]
        rw [← this]; exact HW.n
       have hwz6:=HBh.out.bel.size
       have HrN:RowB w3.heap.size wr 3 (.slice (some ⟨gN,0,none⟩) 256 256) (((List.range 256).map (minRow r m pl s)).map (Value.int .i64)):=rowB_ints hbN (by have:=HW.bn; omega)
       have HrO:RowB w3.heap.size wr 9 (.slice (some ⟨gO,0,none⟩) 256 256) ((r.outs.getD s []).map Value.string):=by
        rw [HO2.out]
        exact ⟨gO,rfl,by have:=HW.bo; omega,HW.o,rowV_len _ _⟩
       have haO:∀ g,(Value.slice (some ⟨gT,0,none⟩) xl xl).ownBlock = some g→(Value.slice (some ⟨gO,0,none⟩) 256 256).ownBlock≠some g:=fun g e e2 => by
        have h1:=(own_lt HBh.out.oT g e).2
        have h2:gO = g:=Option.some.inj e2
        have:=HW.bo
        omega
       have HMp:=Lib.hid (HMh.out.put Hs.out)
       have HB6:=HBh.out.call HW.bel
       clear HW hbN HBh HMh
       obtain ⟨w6,hw6⟩:∃ w6,w6 = wr:=⟨_,rfl⟩
       subst hw6
       go_upto_region 19 with (fail)
       obtain ⟨iN,hiN,y0N,y1N,y2N⟩:=info_parts slI_info
       have qN:=HB6.box.cell 1
       have fN:=HB6.box.frozen 1
       have LBN:=(Below.refl w6.heap.size w6).alloc (Nat.le_refl _) (.cells #[.slice (some ⟨gN,0,none⟩) 256 256] 55)
       have HBN:=HB6.call LBN
       have hoN:=HBN.oN
       have hbzN:=HBN.box
       have hneN:=own_blk hoN hbzN (by decide)
       have hrdN:=reads_allocK w6 [.slice (some ⟨gN,0,none⟩) 256 256] 55 1 1 rfl
       have h63N:N.length + 1≤maxLen:=by have:=HLn.out; unfold maxLen; omega
       have hbyN:(N.length + 1) * 24≤140737488355328:=by have:=HLn.out; omega
       have honeN:∀ u∈[Value.slice (some ⟨gN,0,none⟩) 256 256],u.oneCell' = true:=fun u hu => by rw [List.mem_singleton] at hu; subst hu; rfl
       have hbsN:=HBN.bel.size
       have HrN7:=HrN.call LBN
       have HrO7:=HrO.call LBN
       clear HB6 HrN HrO
       go_upto_region 20 with (at_builtin; refine wpList_append_any _ rfl _ _ 22 rfl w3.heap.size 55 iN _ 1 24 Tryz.underlying22 hiN y0N y1N y2N rfl (by decide) _ _ _ rfl hoN _ (some ⟨w6.heap.size,0,none⟩) 1 1 [.slice (some ⟨gN,0,none⟩) 256 256] rfl hrdN honeN h63N hbyN hbsN ?_; intro vN' wN hownN hgrN hlocN; obtain ⟨A9N,c9N,rfl,_,_,_⟩:=own_form hownN; have e3N:=(blk_keep hbzN hgrN hneN).cell 1; have e4N:=(blk_keep hbzN hgrN hneN).frozen 1)
       have HB7:=HBN.putN hgrN hownN HrN7
       have HrO8:=(HrO7.kept hgrN (HrO7.ne_own hoN (by decide))).set (blk_keep hbzN hgrN hneN) (by decide) 1 (.slice A9N (N.length + 1) c9N)
       clear qN fN e3N e4N LBN hbzN hneN hrdN honeN h63N hbyN hbsN hoN hownN hgrN hlocN HBN HrN7 HrO7 hiN y0N y1N y2N
       generalize wN.setCell ⟨gr,1,none⟩ (.slice A9N (N.length + 1) c9N) = w7 at *
       obtain ⟨iO,hiO,y0O,y1O,y2O⟩:=info_parts slS_info
       have qO:=HB7.box.cell 2
       have fO:=HB7.box.frozen 2
       have LBO:=(Below.refl w7.heap.size w7).alloc (Nat.le_refl _) (.cells #[.slice (some ⟨gO,0,none⟩) 256 256] 25)
       have HBO:=HB7.call LBO
       have hoO:=HBO.oO
       have hbzO:=HBO.box
       have hneO:=own_blk hoO hbzO (by decide)
       have hrdO:=reads_allocK w7 [.slice (some ⟨gO,0,none⟩) 256 256] 25 1 1 rfl
       have h63O:O.length + 1≤maxLen:=by have:=HLn.out; unfold maxLen; omega
       have hbyO:(O.length + 1) * 24≤140737488355328:=by have:=HLn.out; omega
       have honeO:∀ u∈[Value.slice (some ⟨gO,0,none⟩) 256 256],u.oneCell' = true:=fun u hu => by rw [List.mem_singleton] at hu; subst hu; rfl
       have hbsO:=HBO.bel.size
       have HrO9:=HrO8.call LBO
       clear HB7 HrO8
       go_wp2_with (at_builtin; refine wpList_append_any _ rfl _ _ 23 rfl w3.heap.size 25 iO _ 1 24 Tryz.underlying23 hiO y0O y1O y2O rfl (by decide) _ _ _ rfl hoO _ (some ⟨w7.heap.size,0,none⟩) 1 1 [.slice (some ⟨gO,0,none⟩) 256 256] rfl hrdO honeO h63O hbyO hbsO ?_; intro vO' wO hownO hgrO hlocO; obtain ⟨A9O,c9O,rfl,_,_,_⟩:=own_form hownO; have e3O:=(blk_keep hbzO hgrO hneO).cell 2; have e4O:=(blk_keep hbzO hgrO hneO).frozen 2)
       have HB8:=Lib.hid (HBO.putO hgrO hownO HrO9 haO)
       clear qO fO e3O e4O LBO hbzO hneO hrdO honeO h63O hbyO hbsO hoO hownO hgrO hlocO HBO HrO9 haO hiO y0O y1O y2O
       go_roundw
       case rel => exact ⟨k + 1,_,_,_,_,_,_,by omega,by go_num,HB8.out,HMp.out⟩
       case measure => simp [intOf]; omega
    ·obtain rfl:xl = k:=by omega
     have hO1:=HOr.out.1
     rw [← HXL.out] at hO1 hM
     have hsq:=hM.seq
     rw [Hrf.out] at hsq
     have hsm:=min_small HR.out.1 HR.out.2.1 HPO.out hO1
     have hcn:=min_canon HR.out.1 HR.out.2.1 HPO.out hO1 HR.out.2.2.2.2.2.1
     have hkk:=min_ck HR.out.1 HR.out.2.1 HPO.out hO1 HR.out.2.2.2.2.2.1
     have hru:=min_run HR.out.1 HR.out.2.1 HPO.out hO1
     have hml0:=minM_len (q:=r) (m:=m) (xs:=xs) (pl:=pl)
     rw [hsq] at hsm hcn hkk hru hml0
     have hml:N.length = xs.length:=hml0
     have hfs:=(ck_parts HR.out.1).2.2.2.2.1
     rw [Hrf.out] at hfs
     have hln:=hcn.lens
     have hq:=HB.seqNew (m:=1024) (Nat.le_refl _) ⟨by rw [hml]; omega,hln.1,hln.2.1,hln.2.2,by omega,fun i hi => by
      rw [hml] at hi ⊢
      exact hsm.2 i hi⟩
     have hbq:=HB.bel
     have Jr9:=HJ.out.2.1.below hbq HJ.out.2.1.lt
     have hb99:=HJ.out.2.2.trans (hbq.mono hz3)
     have HFn:=Lib.hid (fun (W:World) (hb:Below w.heap.size w W) (v:Value) (hq:SeqNew w.heap.size W ⟨rf,N,O,xs.map r.en,xs.map r.tl⟩ v) => hfin2.out W hb v _ hq hcn hkk hru)
     have HQ:=Lib.hid hq
     have k0:=HB.box.cell 0
     have k1:=HB.box.cell 1
     have k2:=HB.box.cell 2
     have k3:=HB.box.cell 3
     have k4:=HB.box.cell 4
     have r0:=Jr9.cell 0
     have r1:=Jr9.cell 1
     have r2:=Jr9.cell 2
     have r3:=Jr9.cell 3
     have r4:=Jr9.cell 4
     have g0:=Jr9.frozen 0
     have g1:=Jr9.frozen 1
     have g2:=Jr9.frozen 2
     have g3:=Jr9.frozen 3
     have g4:=Jr9.frozen 4
     clear HB hM hO1 hsq hsm hcn hkk hru hml hml0 hfs hln hq
     generalize N.length = nl at *
     generalize O.length = ol at *
     go_wp2_with fail
     exact min_ret rfl rfl (blk_set5 Jr9 _ _ _ _ _) (HFn.out _ (below_set5 hb99 (by omega) _ _ _ _ _) _ ((seqNew_set5 HQ.out (show w.heap.size + 1 < w3.heap.size from hlt4) _ _ _ _ _).mono (by omega)))
end Go.Proofs.YtcondkihpmmnnaaGreatDoor
namespace Go.Proofs.YtcondkihpmmnnaaGreatDoor
open Go.RowKit Go.Sort
def OnePost (w:World) (e:Ending) (w':World):Prop:=∃ vt,e = .returned vt∧FstAt w' w'.heap.size oneT vt∧Below w.heap.size w w'
set_option maxRecDepth 100000 in
theorem one_ret {R:Ending→World→Prop} {tmps:Array Value} {gq:Nat} {c0 c1 c2 c3:Value} {W:World} (h4:tmps[4]? = some (.pointer (some ⟨gq,0,none⟩)))
    (hq:Blk W gq 32 #[c0,c1,c2,c3]) (h:R (.returned (.agg #[c0,c1,c2,c3])) W):bodyPost Tryz.prog Tryz.f22 R Exit.ret ⟨tmps,[]⟩ W:=by
 have q0:=hq.cell 0
 have q1:=hq.cell 1
 have q2:=hq.cell 2
 have q3:=hq.cell 3
 exact bodyPost_ret (v:=.agg #[c0,c1,c2,c3]) (by simp [results,Tryz.results22,go_sem,q0,q1,q2,q3,h4]) rfl h
theorem reads_ofBlk {w:World} {g k n:Nat} {T:TypeId} {xs:List Value} (h:Blk w g T xs.toArray) (hn:xs.length = n * k):Reads w w.heap.size k (some ⟨g,0,none⟩) n xs :=
 ⟨hn,fun _ => ⟨_,rfl,h.lt,fun j u hj => by rw [add_mk,Nat.zero_add,h.cell]; simpa using hj⟩⟩
theorem blk_set4 {gq:Nat} {W:World} {T:TypeId} {c0 c1 c2 c3:Value} (h:Blk W gq T #[c0,c1,c2,c3]) (v0 v1 v2 v3:Value):Blk ((((W.setCell ⟨gq,0,none⟩ v0).setCell ⟨gq,1,none⟩ v1).setCell ⟨gq,2,none⟩ v2).setCell ⟨gq,3,none⟩ v3) gq T #[v0,v1,v2,v3] :=
 (((h.set_ 0 v0).set_ 1 v1).set_ 2 v2).set_ 3 v3
theorem far_set4 {gq g:Nat} {W:World} {T:TypeId} {cs:Array Value} (h:Blk W g T cs) (hn:g≠gq) (v0 v1 v2 v3:Value):Blk ((((W.setCell ⟨gq,0,none⟩ v0).setCell ⟨gq,1,none⟩ v1).setCell ⟨gq,2,none⟩ v2).setCell ⟨gq,3,none⟩ v3) g T cs :=
 (((h.far (p:=⟨gq,0,none⟩) hn v0).far (p:=⟨gq,1,none⟩) hn v1).far (p:=⟨gq,2,none⟩) hn v2).far (p:=⟨gq,3,none⟩) hn v3
set_option maxRecDepth 100000 in
set_option maxHeartbeats 4000000 in
theorem one_any (w:World):Calls Tryz.prog 22 #[.int .u8 97,.string xyB] w (OnePost w):=by
 have hof:=fun (W:World) (g:Nat) (HRW:Reads W W.heap.size 1 (some ⟨g,0,none⟩) 1 (byteVals [97])) => of_any (some ⟨g,0,none⟩) 1 1 _ [97] W HRW (Nat.le_refl _) (by decide) (Nat.le_refl _) (by decide)
 have HXY:=Lib.hid (Eq.refl xyB)
 generalize hxy:xyB = xy at *
 have L0:=(Below.refl w.heap.size w).alloc (Nat.le_refl _) (.cells #[.int .i64 0,.slice none 0 0,.slice none 0 0,.slice none 0 0] 32)
 go_enter Tryz.func22,Tryz.ntmps22
 go_wp2_with fail
 have K0:=Blk.new w 32 #[.int .i64 0,.slice none 0 0,.slice none 0 0,.slice none 0 0]
 generalize hw1:w.alloc (.cells #[.int .i64 0,.slice none 0 0,.slice none 0 0,.slice none 0 0] 32) = w1 at *
 have z1:w1.heap.size = w.heap.size + 1:=by rw [← hw1,World.size_alloc]
 have L1:=(Below.refl w1.heap.size w1).alloc (Nat.le_refl _) (.cells #[.int .i64 0,.string ⟨#[]⟩] 54)
 have K1:=Blk.new w1 54 #[.int .i64 0,.string ⟨#[]⟩]
 generalize hw2:w1.alloc (.cells #[.int .i64 0,.string ⟨#[]⟩] 54) = w2 at *
 have z2:w2.heap.size = w.heap.size + 1 + 1:=by rw [← hw2,World.size_alloc,z1]
 have L2:=(Below.refl w2.heap.size w2).alloc (Nat.le_refl _) (.cells #[.int .i64 1,.string ⟨#[]⟩] 54)
 have K2:=Blk.new w2 54 #[.int .i64 1,.string ⟨#[]⟩]
 generalize hw3:w2.alloc (.cells #[.int .i64 1,.string ⟨#[]⟩] 54) = w3 at *
 have z3:w3.heap.size = w.heap.size + 1 + 1 + 1:=by rw [← hw3,World.size_alloc,z2]
 have L3:=(Below.refl w3.heap.size w3).alloc (Nat.le_refl _) (.cells #[.int .u8 97] 5)
 have R3:=reads_ofBlk (k:=1) (n:=1) (xs:=byteVals [97]) (Blk.new w3 5 #[.int .u8 97]) rfl
 rw [z3] at R3
 have hc:=hof _ _ R3
 generalize hw4:w3.alloc (.cells #[.int .u8 97] 5) = w4 at *
 refine hc.mono ?_
 rintro e w5 ⟨rfl,hb5⟩
 have z4:=hb5.size
 have z34:=L3.size
 have B5:Below w1.heap.size w1 w5:=L1.trans ((L2.trans ((L3.trans (hb5.mono L3.size)).mono L2.size)).mono L1.size)
 have B52:Below w2.heap.size w2 w5:=L2.trans ((L3.trans (hb5.mono L3.size)).mono L2.size)
 have B53:Below w3.heap.size w3 w5:=L3.trans (hb5.mono L3.size)
 have J0:=K0.below B5 K0.lt
 have J1:=K1.below B52 K1.lt
 have J2:=K2.below B53 K2.lt
 rw [z1] at J1
 rw [z2] at J2
 have k0:=J0.cell 0
 have k1:=J0.cell 1
 have k2:=J0.cell 2
 have k3:=J0.cell 3
 have f0:=J0.frozen 0
 have f1:=J0.frozen 1
 have f2:=J0.frozen 2
 have f3:=J0.frozen 3
 have BW:=L0.trans (B5.mono (by omega))
 have hz5:w.heap.size + 1 + 1 + 1≤w5.heap.size:=by omega
 clear hc hof L0 L1 L2 L3 K0 K1 K2 R3 hb5 B5 B52 B53 z4 z34 hw1 hw2 hw3 hw4 z1 z2 z3
 have hl:=J0.lt
 have n1:w.heap.size + 1≠w.heap.size:=by omega
 have n2:w.heap.size + 1 + 1≠w.heap.size:=by omega
 have BW6:∀ v0 v1 v2 v3:Value,Below w.heap.size w ((((w5.setCell ⟨w.heap.size,0,none⟩ v0).setCell ⟨w.heap.size,1,none⟩ v1).setCell ⟨w.heap.size,2,none⟩ v2).setCell ⟨w.heap.size,3,none⟩ v3):=fun v0 v1 v2 v3 =>
  (((BW.setCell (p:=⟨w.heap.size,0,none⟩) (Nat.le_refl _) v0).setCell (p:=⟨w.heap.size,1,none⟩) (Nat.le_refl _) v1).setCell (p:=⟨w.heap.size,2,none⟩) (Nat.le_refl _) v2).setCell (p:=⟨w.heap.size,3,none⟩) (Nat.le_refl _) v3
 have HF:=Lib.hid (fun v0 v1 v2 v3:Value => And.intro (blk_set4 J0 v0 v1 v2 v3) (And.intro (far_set4 J1 n1 v0 v1 v2 v3) (far_set4 J2 n2 v0 v1 v2 v3)))
 have HW:=Lib.hid BW6
 clear J0 J1 J2 BW BW6
 go_wp2_with fail
 have hsz:((((w5.setCell ⟨w.heap.size,0,none⟩ (.int .i64 2)).setCell ⟨w.heap.size,1,none⟩ (.slice (some ⟨w.heap.size + 1,0,none⟩) 1 1)).setCell ⟨w.heap.size,2,none⟩ (.slice (some ⟨w.heap.size + 1 + 1,0,none⟩) 1 1)).setCell ⟨w.heap.size,3,none⟩ (.slice (some ⟨w5.heap.size,0,none⟩) 1 1)).heap.size = w5.heap.size:=by simp
 obtain ⟨J0,J1,J2⟩:=HF.out (.int .i64 2) (.slice (some ⟨w.heap.size + 1,0,none⟩) 1 1) (.slice (some ⟨w.heap.size + 1 + 1,0,none⟩) 1 1) (.slice (some ⟨w5.heap.size,0,none⟩) 1 1)
 have HB:=HW.out (.int .i64 2) (.slice (some ⟨w.heap.size + 1,0,none⟩) 1 1) (.slice (some ⟨w.heap.size + 1 + 1,0,none⟩) 1 1) (.slice (some ⟨w5.heap.size,0,none⟩) 1 1)
 generalize ((((w5.setCell ⟨w.heap.size,0,none⟩ (.int .i64 2)).setCell ⟨w.heap.size,1,none⟩ (.slice (some ⟨w.heap.size + 1,0,none⟩) 1 1)).setCell ⟨w.heap.size,2,none⟩ (.slice (some ⟨w.heap.size + 1 + 1,0,none⟩) 1 1)).setCell ⟨w.heap.size,3,none⟩ (.slice (some ⟨w5.heap.size,0,none⟩) 1 1)) = w6 at *
 have J3:=Blk.new w6 61 #[.int .i64 0,.int .i64 1,.int .u64 ((word (sOf [97]) 0:Nat):Int),.int .u64 ((word (sOf [97]) 1:Nat):Int),.int .u64 ((word (sOf [97]) 2:Nat):Int),.int .u64 ((word (sOf [97]) 3:Nat):Int),.string xy,.bool false]
 rw [hsz] at J3
 subst hxy
 refine one_ret rfl (J0.alloc _) ⟨_,rfl,⟨_,1,_,1,_,1,rfl,?_⟩,HB.alloc HB.size _⟩
 refine ⟨Nat.le_refl _,Nat.le_refl _,Nat.le_refl _,by unfold maxLen; decide,by unfold maxLen; decide,by unfold maxLen; decide,by decide,by decide,reads_ofBlk (J1.alloc _) rfl,fun x hx => ?_,reads_ofBlk (J2.alloc _) rfl,fun x hx => ?_,reads_ofBlk J3 rfl,fun x hx => ?_⟩
 ·obtain rfl:=List.mem_singleton.1 hx
  exact ⟨by decide,by decide,by unfold maxLen; decide⟩
 ·obtain rfl:=List.mem_singleton.1 hx
  exact ⟨by decide,by decide,by unfold maxLen; decide⟩
 ·obtain rfl:=List.mem_singleton.1 hx
  refine ⟨by decide,by decide,by decide,by decide,?_,by unfold maxLen; decide⟩
  unfold StW aS
  decide +kernel
end Go.Proofs.YtcondkihpmmnnaaGreatDoor
namespace Go.Proofs.YtcondkihpmmnnaaGreatDoor
open Go.RowKit Go.Sort
theorem oneT_ck:fckB oneT = true:=by decide +kernel
theorem xy_of {o:ByteArray} (h:bl o = [120,121]):o = ⟨#[120,121]⟩:=bl_inj h
set_option maxRecDepth 100000 in
set_option maxHeartbeats 4000000 in
theorem made_any (w:World) (hP:Pow w w.heap.size):Calls Tryz.prog 8 #[] w (Gives (.bool true) w):=by
 have h1:Calls Tryz.prog 22 #[.int .u8 97,.string ⟨#[120,121]⟩] w (OnePost w):=one_any w
 have H1:=Lib.hid h1
 clear h1
 go_enter Tryz.func8,Tryz.ntmps8
 go_wp2_with fail
 refine H1.out.mono ?_
 clear H1
 rintro e w1 ⟨vt,rfl,hT,hb1⟩
 have hof:=Lib.hid (seqOf_any oneT vt w1.heap.size 5 w1 hT (Nat.le_refl _) ((hP.below hb1).mono hb1.size) (by decide))
 clear hT
 go_wp2_with fail
 refine hof.out.mono ?_
 clear hof
 rintro e w2 ⟨hb2,v2,q,k,rfl,hq,_,_,h5⟩
 obtain ⟨u,f,htr,_,h6⟩:=h5 oneT_ck (by decide) (by decide)
 rw [show (5:Int).toNat = 5 from rfl,(one_of htr).all] at h6
 obtain ⟨rfl,rfl⟩:=h6
 obtain ⟨A1,c1,A2,c2,A3,c3,A4,c4,rfl,_⟩:=hq.at_
 have B2:=hb1.trans (hb2.mono hb1.size)
 have hz1:=hb1.size
 have hz2:=hb2.size
 clear h5 htr hb1 hb2
 generalize hfe:q1.front = fr at *
 generalize hn1:q1.next.length = n1 at *
 generalize hn2:q1.outs.length = n2 at *
 generalize hn3:q1.ends.length = n3 at *
 generalize hn4:q1.tail.length = n4 at *
 clear hfe hn1 hn2 hn3 hn4
 have K2:=(Blk.new w2 27 #[.string fr,.slice A1 n1 c1,.slice A2 n2 c2,.slice A3 n3 c3,.slice A4 n4 c4])
 have L2:=(Below.refl w2.heap.size w2).alloc (Nat.le_refl _) (.cells #[.string fr,.slice A1 n1 c1,.slice A2 n2 c2,.slice A3 n3 c3,.slice A4 n4 c4] 27)
 have hq3:=hq.below L2
 have B3:=B2.trans (L2.mono B2.size)
 have hmi:=Lib.hid (min_any q1 _ _ _ hq3.at_ (Nat.le_refl _) ((hP.below B3).mono B3.size))
 clear hq hq3
 go_wp2_with fail
 refine hmi.out.mono ?_
 clear hmi
 rintro e w4 ⟨hb4,v4,r,k,rfl,hr,hcase⟩
 have hgood:k = 0∧Canon r∧ckB r = true∧∀ x,r.run x = q1.run x:=by
  rcases hcase with ⟨h,_⟩ | ⟨_,⟨_,_,k',hf,hl⟩ | ⟨h1,⟨_,h2⟩ | ⟨h2,h3,h4⟩⟩⟩
  ·rw [q1_ck] at h; cases h
  ·exact absurd hl (q1_short hf)
  ·have:=h2 [97]
   rw [q1_run] at this; cases this
  ·exact ⟨h1,h2,h3,h4⟩
 obtain ⟨rfl,hcn,hck,hrn⟩:=hgood
 have hfront:=made_front hcn hrn
 obtain ⟨D1,d1,D2,d2,D3,d3,D4,d4,rfl,_⟩:=hr.at_
 have hrun:=hrn [97]
 rw [q1_run] at hrun
 rw [hfront] at hr ⊢
 have B4:=B3.trans (hb4.mono B3.size)
 clear hcase hcn hrn hfront K2 L2 B3 B2 hb4
 have K4:=(Blk.new w4 27 #[.string ⟨#[120,121]⟩,.slice D1 r.next.length d1,.slice D2 r.outs.length d2,.slice D3 r.ends.length d3,.slice D4 r.tail.length d4])
 have L4:=(Below.refl w4.heap.size w4).alloc (Nat.le_refl _) (.cells #[.string ⟨#[120,121]⟩,.slice D1 r.next.length d1,.slice D2 r.outs.length d2,.slice D3 r.ends.length d3,.slice D4 r.tail.length d4] 27)
 have hr5:=hr.below L4
 have B5:=B4.trans (L4.mono B4.size)
 have hap:=Lib.hid (apply_any r _ _ ⟨#[97]⟩ _ hr5.at_ (Nat.le_refl _) (by decide))
 have HRun:=Lib.hid (And.intro hck hrun)
 have hxy:Value.string xyB = Value.string ⟨#[120,121]⟩:=rfl
 rw [hxy] at hap ⊢
 clear hr hr5 hck hrun hxy
 generalize r.next.length = m1 at *
 generalize r.outs.length = m2 at *
 generalize r.ends.length = m3 at *
 generalize r.tail.length = m4 at *
 go_wp2_with fail
 refine hap.out.mono ?_
 clear hap
 rintro e w6 ⟨o,k',b,rr,rfl,hb6,_,_,h2,_⟩
 obtain ⟨rfl,h3⟩:=h2 HRun.out.1
 rw [show bl ⟨#[97]⟩ = [97] from rfl,HRun.out.2] at h3
 have hb:b = true:=by
  rcases b with _ | _
  ·cases h3
  ·rfl
 subst hb
 have h3:some [120,121] = some (bl o):=h3
 obtain rfl:=xy_of (Option.some.inj h3).symm
 have q0:=(K4.below hb6 K4.lt).cell 0
 have HB:=Lib.hid (show Gives (.bool true) w (.returned (.bool true)) w6 from ⟨rfl,B5.trans (hb6.mono B5.size)⟩)
 clear h2 h3 HRun L4 K4 B4 B5 hb6
 go_wp2_with fail
 exact bodyPost_ret (v:=.bool true) (by simp [results,Tryz.results8,go_sem]) rfl HB.out
end Go.Proofs.YtcondkihpmmnnaaGreatDoor
