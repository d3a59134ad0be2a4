/- Lemmas, part 46 of 50. No condition. -/
import Derived.Test.YtcondkihpmmnnaaGreatDoorQ45
import Derived.Test.YtcondkihpmmnnaaGreatDoorQ44
import Derived.Test.YtcondkihpmmnnaaGreatDoorQ42
import Derived.Test.YtcondkihpmmnnaaGreatDoorQ32
import Derived.Laws.CopyOwn
namespace Go.Proofs.YtcondkihpmmnnaaGreatDoor
open Go.RowKit Go.Sort
theorem push_any (q:SeqM) (v:Value) (B:Nat) (w:World) (HS:SeqAt w B q v) (hB:B≤w.heap.size):Calls Tryz.prog 33 #[v] w (PushPost q w):=by
 rcases hck:ckB q with _ | _
 ·exact push_bad q v B w HS hB hck
 ·exact push_good q v B _ w HS hB rfl hck
def MinPost (q:SeqM) (w:World) (e:Ending) (w':World):Prop :=
 Below w.heap.size w w'∧∃ (v:Value) (r:SeqM) (c:Int),e = .returned (.tuple #[v,.int .i64 c])∧SeqNew w.heap.size w' r v ∧
  ((ckB q = false∧c = 1∧r = seq0)∨(ckB q = true∧((c = 2∧r = seq0∧∃ k,Fronts q k∧LongQ q k)∨(c = 0∧((r = seq0∧∀ x,q.run x = none)∨(Canon r∧ckB r = true∧∀ x,r.run x = q.run x))))))
set_option maxRecDepth 100000 in
theorem min_ret {R:Ending→World→Prop} {tmps:Array Value} {gq:Nat} {c0 c1 c2 c3 c4 k:Value} {W:World} (h4:tmps[2]? = some (.pointer (some ⟨gq,0,none⟩))) (h5:tmps[3]? = some k)
    (hq:Blk W gq 27 #[c0,c1,c2,c3,c4]) (h:R (.returned (.tuple #[.agg #[c0,c1,c2,c3,c4],k])) W):bodyPost Tryz.prog Tryz.f13 R Exit.ret ⟨tmps,[]⟩ W:=by
 have q0:=hq.cell 0
 have q1:=hq.cell 1
 have q2:=hq.cell 2
 have q3:=hq.cell 3
 have q4:=hq.cell 4
 exact bodyPost_ret (v:=.tuple #[.agg #[c0,c1,c2,c3,c4],k]) (by simp [results,Tryz.results13,go_sem,q0,q1,q2,q3,q4,h4,h5]) rfl h
theorem run_none {q:SeqM} {k:Frt} (hf:Fronts q k) (h:q.next.length = 0∨k.some 0 = false) (x:List UInt8):q.run x = none:=by
 unfold SeqM.run
 by_cases h0:q.next.length = 0
 ·rw [if_pos h0]
 ·rw [if_neg h0]
  rcases hr:q.runL 0 x with _ | o
  ·rfl
  ·have:=(hf.live 0 (by omega)).2 ⟨o,x,hr⟩
   rw [h.resolve_left h0] at this
   cases this
section
variable {q:SeqM} {n c:Nat} {m:Nat→Nat} {xs:List Nat} {pl:Nat→Int}
theorem min_ck (hck:ckB q = true) (hn:q.next.length = n) (hP:PartsOk q n m c) (hO:OrdI q n c m xs pl xs.length 0) (hT:Tight q):ckB (minM q m pl xs) = true:=by
 obtain ⟨s1,s2⟩:=min_small hck hn hP hO
 have hC:=min_canon hck hn hP hO hT
 obtain ⟨p1,p2,p3,p4,p5,p6⟩:=ck_parts hck
 obtain ⟨l1,l2,l3⟩:=hC.lens
 have hpos:=hC.pos
 unfold ckB
 simp only [Bool.and_eq_true,Bool.or_eq_true,decide_eq_true_eq,List.all_eq_true]
 refine ⟨⟨⟨⟨⟨⟨by rw [minM_len]; omega,l1⟩,l2⟩,l3⟩,p5⟩,.inl (by omega)⟩,fun i hi => ?_⟩
 have hi:=List.mem_range.1 hi
 obtain ⟨t1,t2,t3,t4⟩:=s2 i (by rwa [minM_len] at hi)
 unfold stB rowB entB
 simp only [Bool.and_eq_true,Bool.or_eq_true,decide_eq_true_eq,List.all_eq_true]
 refine ⟨⟨t1,?_⟩,⟨t2,t3⟩,fun b hb => ?_⟩
 ·rcases he:(minM q m pl xs).en i with _ | _
  ·right
   have:=hC.open_ i hi he
   show ((minM q m pl xs).tl i).size = 0
   rw [this]; rfl
  ·left; exact he
 ·have hb:=List.mem_range.1 hb
  obtain ⟨u1,u2,u3⟩:=t4 b hb
  refine ⟨⟨⟨u1,by rw [minM_len]; exact u2⟩,u3⟩,?_⟩
  by_cases h0:(minM q m pl xs).nx i b < 0
  ·right
   have:=(hC.no i b hi hb h0).2
   show ((minM q m pl xs).os i b).size = 0
   rw [this]; rfl
  ·left
   intro e
   have:(minM q m pl xs).nx i b = -1:=e
   omega
end
theorem eg_pickB:∀ args w,(callFunc 36 args).run Tryz.prog w = .ok (.enter 36 args) w:=enters_of Tryz.func36 (by kernel_rfl) rfl
theorem eg_pickS:∀ args w,(callFunc 37 args).run Tryz.prog w = .ok (.enter 37 args) w:=enters_of Tryz.func37 (by kernel_rfl) rfl
theorem maker_alloc {Q:Exit→Act→World→Prop} {base:Act} {w:World} {ds:List Tmp} {o:Oper} {d:Tmp} (hd:o.dst = some d) (hg:o.guard = none) (T:TypeId) (cs:Array Value) (hop:o.op = Op.alloc T)
    (hrun:∀ W,(Instr.alloc T true (.tuple #[])).run Tryz.prog W = .ok (.pointer (some ⟨W.heap.size,0,none⟩)) (W.alloc (.cells cs T))) :
    Maker Tryz.prog Q base w ds o d (fun v W => ∃ g,v = .pointer (some ⟨g,0,none⟩)∧w.heap.size≤g∧Blk W g T cs):=by
 refine ⟨hd,hg,?_,?_⟩
 ·rintro v W W' ⟨g,rfl,hgz,ho⟩ hb
  exact ⟨g,rfl,hgz,ho.below hb ho.lt⟩
 ·intro act W K hag hb hK
  unfold Oper.wp
  simp [execOp,hop,hrun,Result.andThen]
  show K (act.put o.dst _) _
  rw [hd]
  exact hK _ _ ((Below.refl _ W).alloc (Nat.le_refl _) _) ⟨W.heap.size,rfl,hb.size,Blk.new W T cs⟩
theorem wpList_copy_full {P:Program} {w:World} {ops:Array Oper} {rest:List Oper} {o:Oper} {a:Act} {Q:Exit→Act→World→Prop} (hgd:o.guard = none) (d s:Operand) (dT sT:TypeId)
    (ho:o.op = .call { callee:=.builtin .copy,args:=#[d,s],argTypes:=#[dT,sT] }) (elem:TypeId) (hu:P.underlying dT = some (.slice elem)) (hsz:(P.info? elem).map (·.size) = some 1)
    (g n dCap sCap:Nat) (ad:Addr) (hd:a.eval d = .slice (some ⟨g,0,none⟩) n dCap) (hs:a.eval s = .slice (some ad) n sCap)
    (cur:Array Value) (t:TypeId) (hg:Blk w g t cur) (hcur:cur.size = n) (cs:List Value) (hn:cs.length = n)
    (hsrc:∀ j v,cs[j]? = some v→w.cell? (ad.add j) = some v) (h1:∀ v∈cs,v.oneCell' = true)
    (h:∀ w',Hid (Blk w' g t cs.toArray)→w.grownBy w' (some g)→wpList P ops Q rest (a.put o.dst (goInt n)) w'):wpList P ops Q (o :: rest) a w:=by
 refine wpList_copy_own hgd d s dT sT ho elem hu hsz g 0 n dCap ad n sCap hd hs cur t hg cs (by simp [hn]) hsrc (by omega) h1 ?_
 have e:(cur.toList.take 0 ++ (cs ++ cur.toList.drop (0 + cs.length))).toArray = cs.toArray:=by
  rw [List.take_zero,List.nil_append,List.drop_eq_nil_of_le (by simp; omega),List.append_nil]
 rw [e,hn]
 exact h _ (show Blk _ g t cs.toArray from setRow_heap w g _ _ t _ hg) ⟨rfl,rfl,rfl,by simp [World.setRow],fun k _ hk => setRow_other w g k _ (fun e => hk (by rw [e]))⟩
def MinRows (q:SeqM) (m:Nat→Nat) (pl:Nat→Int) (xs:List Nat) (i:Nat) (N:List (List Int)) (O:List (List ByteArray)):Prop :=
 N = (xs.take i).map (fun s => (List.range 256).map (minRow q m pl s))∧O = (xs.take i).map (fun s => q.outs.getD s [])
theorem MinRows.start {q:SeqM} {m:Nat→Nat} {pl:Nat→Int} {xs:List Nat}:MinRows q m pl xs 0 [] []:=⟨rfl,rfl⟩
theorem MinRows.len {q:SeqM} {m:Nat→Nat} {pl:Nat→Int} {xs:List Nat} {i:Nat} {N:List (List Int)} {O:List (List ByteArray)} (h:MinRows q m pl xs i N O):N.length≤xs.length∧O.length≤xs.length:=by
 obtain ⟨rfl,rfl⟩:=h
 simp; omega
theorem MinRows.put {q:SeqM} {m:Nat→Nat} {pl:Nat→Int} {xs:List Nat} {i s:Nat} {N:List (List Int)} {O:List (List ByteArray)} (h:MinRows q m pl xs i N O) (hs:xs[i]? = some s) :
    MinRows q m pl xs (i + 1) (N ++ [(List.range 256).map (minRow q m pl s)]) (O ++ [q.outs.getD s []]):=by
 obtain ⟨rfl,rfl⟩:=h
 unfold MinRows
 rw [List.take_add_one,hs]
 simp
theorem MinRows.seq {q:SeqM} {m:Nat→Nat} {pl:Nat→Int} {xs:List Nat} {N:List (List Int)} {O:List (List ByteArray)} (h:MinRows q m pl xs xs.length N O):minM q m pl xs = ⟨q.front,N,O,xs.map q.en,xs.map q.tl⟩:=by
 obtain ⟨rfl,rfl⟩:=h
 unfold minM
 rw [List.take_length]
theorem map_row {α:Type} (f:α→Value) (d:α) {L:List α} (h:L.length = 256):L.map f = rowV (fun b => f (L.getD b d)) 256:=by
 unfold rowV
 apply List.ext_getElem?
 intro j
 rw [List.getElem?_map,List.getElem?_map]
 by_cases hj:j < 256
 ·rw [List.getElem?_range hj,List.getElem?_eq_getElem (show j < L.length by omega)]
  show some (f L[j]) = some (f (L.getD j d))
  rw [List.getD_eq_getElem?_getD,List.getElem?_eq_getElem (show j < L.length by omega)]; rfl
 ·rw [List.getElem?_eq_none (by omega),List.getElem?_eq_none (by simp; omega)]; rfl
theorem rowV_maps {α:Type} (f:α→Value) (g:Nat→α) (xs:List Nat):(xs.map g).map f = rowV (fun i => f (g (xs.getD i 0))) xs.length:=by
 unfold rowV
 apply List.ext_getElem?
 intro j
 rw [List.getElem?_map,List.getElem?_map,List.getElem?_map]
 by_cases hj:j < xs.length
 ·rw [List.getElem?_range hj,List.getElem?_eq_getElem hj]
  show some (f (g xs[j])) = some (f (g (xs.getD j 0)))
  rw [List.getD_eq_getElem?_getD,List.getElem?_eq_getElem hj]; rfl
 ·rw [List.getElem?_eq_none (by omega),List.getElem?_eq_none (by simp; omega)]; rfl
theorem TrnW.putN {W0 wr w':World} {gN gO:Nat} {fn:Nat→Int} {fo:Nat→ByteArray} (h:TrnW W0 wr gN gO fn fo) {fn':Nat→Int} (hb:Blk w' gN 3 (intsV fn' 256)) (hg:wr.grownBy w' (some gN)):TrnW W0 w' gN gO fn' fo :=
 ⟨hb,blk_keep h.o hg (fun e => Blk.ne_ h.n h.o (by decide) (Option.some.inj e)),h.bn,h.bo,h.bel.grown hg h.bel.size (fun k hk => by rw [← Option.some.inj hk]; exact h.bn)⟩
theorem TrnW.putO {W0 wr w':World} {gN gO:Nat} {fn:Nat→Int} {fo:Nat→ByteArray} (h:TrnW W0 wr gN gO fn fo) {fo':Nat→ByteArray} (hb:Blk w' gO 9 (strsV fo' 256)) (hg:wr.grownBy w' (some gO)):TrnW W0 w' gN gO fn fo' :=
 ⟨blk_keep h.n hg (fun e => Blk.ne_ h.o h.n (by decide) (Option.some.inj e)),hb,h.bn,h.bo,h.bel.grown hg h.bel.size (fun k hk => by rw [← Option.some.inj hk]; exact h.bo)⟩
theorem SqB.ofE {W0 W:World} {gr:Nat} {fr:ByteArray} {vE vT:Value} {E:List Bool} {T:List ByteArray} (hb:Blk W gr 27 #[.string fr,nilV,nilV,vE,vT]) (hg:W0.heap.size≤gr) (hbel:Below W0.heap.size W0 W)
    (hE:W.ownsRow W0.heap.size 4 1 vE E.length (E.map Value.bool)) (hT:W.ownsRow W0.heap.size 9 1 vT T.length (T.map Value.string)):SqB W0 W gr fr nilV nilV vE vT [] [] [] [] E T :=
 ⟨hb,World.ownsRow_nil _ _ _ _,World.ownsRow_nil _ _ _ _,hE,hT,fun _i h => absurd h (Nat.not_lt_zero _),fun _i h => absurd h (Nat.not_lt_zero _),fun _i h => absurd h (Nat.not_lt_zero _),hg,hbel⟩
end Go.Proofs.YtcondkihpmmnnaaGreatDoor
