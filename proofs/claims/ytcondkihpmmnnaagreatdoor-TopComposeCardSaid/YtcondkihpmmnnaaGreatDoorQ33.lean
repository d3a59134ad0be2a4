/- Lemmas, part 33 of 50. No condition. -/
import Derived.Test.YtcondkihpmmnnaaGreatDoorQ31
import Derived.ArgAppend
import Derived.Test.YtcondkihpmmnnaaGreatDoorQ32
import Derived.Test.YtcondkihpmmnnaaGreatDoorQ28
import Derived.Test.YtcondkihpmmnnaaGreatDoorQ09
import Derived.Test.YtcondkihpmmnnaaGreatDoorQ29
import Derived.Test.YtcondkihpmmnnaaGreatDoorQ13
namespace Go.Proofs.YtcondkihpmmnnaaGreatDoor
open Go.RowKit Go.Sort
def OwnQ (w:World) (base:Nat) (e:TypeId) (v:Value) (xs:List Value):Prop :=
 ∃ g off cap cur,v = .slice (some ⟨g,off,none⟩) xs.length cap∧base≤g∧w.heap[g]? = some (.cells cur e (0,0))∧xs.length≤cap∧off + cap≤cur.size∧off + cap≤maxLen∧(cur.toList.drop off).take xs.length = xs
section
variable {w w':World} {base:Nat} {e:TypeId} {v:Value} {xs:List Value}
def qBlock:Value→Option Nat
 | .slice (some a) _ _ => some a.block
 | _ => none
theorem OwnQ.lt (h:OwnQ w base e v xs):∀ g,qBlock v = some g→base≤g∧g < w.heap.size:=by
 obtain ⟨g,off,cap,cur,rfl,hb,hh,_⟩:=h
 intro g' e
 have e:g = g':=Option.some.inj e
 subst e
 exact ⟨hb,(Array.getElem?_eq_some_iff.1 hh).1⟩
theorem OwnQ.form (h:OwnQ w base e v xs):∃ g off cap,v = .slice (some ⟨g,off,none⟩) xs.length cap∧xs.length≤cap∧off + cap≤maxLen:=by
 obtain ⟨g,off,cap,cur,rfl,hb,hh,h1,h2,h3,h4⟩:=h
 exact ⟨g,off,cap,rfl,h1,h3⟩
theorem OwnQ.kept {row:Option Nat} (h:OwnQ w base e v xs) (hg:w.grownBy w' row) (hn:qBlock v = none∨qBlock v≠row):OwnQ w' base e v xs:=by
 obtain ⟨g,off,cap,cur,rfl,hb,hh,rest⟩:=h
 refine ⟨g,off,cap,cur,rfl,hb,?_,rest⟩
 rw [hg.block g (Array.getElem?_eq_some_iff.1 hh).1 (fun e => by
  rcases hn with h | h
  ·cases h
  ·exact h e)]
 exact hh
theorem OwnQ.below (h:OwnQ w base e v xs) (hb:Below w.heap.size w w'):OwnQ w' base e v xs:=by
 obtain ⟨g,off,cap,cur,rfl,hb',hh,rest⟩:=h
 exact ⟨g,off,cap,cur,rfl,hb',(hb.block g (Array.getElem?_eq_some_iff.1 hh).1).trans hh,rest⟩
theorem OwnQ.setCell (h:OwnQ w base e v xs) {p:Addr} (hp:qBlock v≠some p.block) (u:Value):OwnQ (w.setCell p u) base e v xs :=
 h.kept (row:=some p.block) ⟨rfl,rfl,rfl,by simp,fun k _ hne => Below.heap_setCell w p u k (fun e => hne (by rw [e]))⟩ (.inr hp)
theorem OwnQ.cell (h:OwnQ w base e v xs):∃ g off cap,v = .slice (some ⟨g,off,none⟩) xs.length cap∧∀ j u,xs[j]? = some u→w.cell? ⟨g,off + j,none⟩ = some u:=by
 obtain ⟨g,off,cap,cur,rfl,hb,hh,h1,h2,h3,h4⟩:=h
 refine ⟨g,off,cap,rfl,fun j u hj => ?_⟩
 have hjl:j < xs.length:=(List.getElem?_eq_some_iff.1 hj).1
 rw [cell_of_row w g (off + j) cur e (0,0) hh,← Array.getElem?_toList]
 rw [← h4,List.getElem?_take,if_pos hjl,List.getElem?_drop] at hj
 exact hj
theorem OwnQ.tail {x:Value} (h:OwnQ w base e v (x :: xs)):∃ g off cap,v = .slice (some ⟨g,off,none⟩) (xs.length + 1) cap∧xs.length + 1≤cap∧OwnQ w base e (.slice (some ⟨g,off + 1,none⟩) xs.length (cap - 1)) xs∧(cap = 1→OwnQ w base e (.slice (some ⟨g,off,none⟩) xs.length 0) xs):=by
 obtain ⟨g,off,cap,cur,rfl,hb,hh,h1,h2,h3,h4⟩:=h
 rw [List.length_cons] at h1
 refine ⟨g,off,cap,rfl,h1,⟨g,off + 1,cap - 1,cur,rfl,hb,hh,by omega,by omega,by omega,?_⟩,fun e => ?_⟩
 ·have h5:=congrArg (List.drop 1) h4
  rw [List.length_cons,List.drop_take,List.drop_drop] at h5
  simpa using h5
 ·obtain rfl:xs = []:=List.eq_nil_of_length_eq_zero (by omega)
  exact ⟨g,off,0,cur,rfl,hb,hh,Nat.le_refl _,by omega,by omega,rfl⟩
theorem OwnQ.of_blk {g:Nat} (hb:base≤g) (h:Blk w g e xs.toArray) (hm:xs.length≤maxLen):OwnQ w base e (.slice (some ⟨g,0,none⟩) xs.length xs.length) xs :=
 ⟨g,0,xs.length,xs.toArray,rfl,hb,h,Nat.le_refl _,by simp,by omega,by simp⟩
end
theorem take_set_end {l xs:List Value} {off:Nat} {x:Value} (hl:off + xs.length < l.length) (h:(l.drop off).take xs.length = xs):((l.set (off + xs.length) x).drop off).take (xs.length + 1) = xs ++ [x]:=by
 have hd:(l.set (off + xs.length) x).drop off = (l.drop off).set xs.length x:=by
  rw [List.drop_set,if_neg (by omega),Nat.add_sub_cancel_left]
 have hm:xs.length < (l.drop off).length:=by rw [List.length_drop]; omega
 rw [hd]
 generalize l.drop off = m at *
 rw [List.take_succ_eq_append_getElem (by rw [List.length_set]; exact hm),List.getElem_set_self,List.take_set_of_le (Nat.le_refl _),h]
section
variable {P:Program} (w:World)
theorem run_append_q (base:Nat) (t ty e:TypeId) (i:TypeInfo) (z:Value) (bytes:Nat) (ht:P.underlying t = some (.slice e)) (hi:P.info? e = some i) (hz:i.zero = some z)
    (hsize:i.size = 1) (hby:i.bytes = bytes) (hzs:z.cells.size = 1)
    (v:Value) (xs:List Value) (hown:OwnQ w base e v xs) (a:Nat) (x:Value) (hx:w.cell? ⟨a,0,none⟩ = some x) (h1:x.oneCell' = true)
    (h63:xs.length + 1≤maxLen) (hbytes:(xs.length + 1) * bytes≤140737488355328) (hbase:base≤w.heap.size) :
    ∃ v' w',(Builtin.append_ #[t,t] ty #[v,.slice (some ⟨a,0,none⟩) 1 1]).run P w = .ok v' w'∧OwnQ w' base e v' (xs ++ [x])∧w.grownBy w' (qBlock v)∧(qBlock v' = qBlock v∨∀ g,qBlock v' = some g→w.heap.size≤g):=by
 have hnews:∀ j u,[x][j]? = some u→w.cell? ((⟨a,0,none⟩:Addr).add j) = some u:=fun j u hj => by
  match j,hj with
  | 0,hj => simp at hj; subst hj; rw [add_mk]; exact hx
 obtain ⟨g,off,cap,cur,rfl,hb,hh,hl,hc,hm,ht'⟩:=hown
 by_cases hroom:xs.length + 1≤cap
 ·have hcl:∀ j,j < [x].length→(w.cell? ⟨g,off + xs.length * i.size + j,none⟩).isSome = true:=fun j hj => by
    have:j = 0:=by simpa using hj
    subst this
    rw [hsize,Nat.mul_one,Nat.add_zero,cell_of_row w g (off + xs.length) cur e (0,0) hh,Array.getElem?_eq_getElem (by omega)]
    rfl
  have hf:∀ j,j < [x].length→w.frozen? ⟨g,off + xs.length * i.size + j,none⟩ = false:=fun j _ => by simp [World.frozen?,hh]
  have hr:=run_append_room_cells (P:=P) w t ty e i ht hi g off xs.length cap ⟨a,0,none⟩ 1 1 [x] (by rw [hsize]; rfl) hnews (fun u hu => by rw [List.mem_singleton] at hu; subst hu; exact h1) hroom hcl hf
  rw [hsize,Nat.mul_one] at hr
  have hset:w.setCells g (off + xs.length) [x] = w.setCell ⟨g,off + xs.length,none⟩ x:=rfl
  rw [hset] at hr
  refine ⟨_,_,hr,⟨g,off,cap,cur.setIfInBounds (off + xs.length) x,by rw [List.length_append]; rfl,hb,?_,by rw [List.length_append]; exact hroom,by simpa using hc,hm,?_⟩,⟨rfl,rfl,rfl,by simp,fun k _ hne => Below.heap_setCell w _ x k (fun e => hne (by rw [e]; rfl))⟩,.inl rfl⟩
  ·have:=Blk.set_ (show Blk w g e cur from hh) (off + xs.length) x
   exact this
  ·rw [Array.toList_setIfInBounds,List.length_append,List.length_singleton]
   exact take_set_end (by rw [Array.length_toList]; exact Nat.lt_of_lt_of_le (Nat.add_lt_add_left hroom off) hc) ht'
 ·have holds:∀ j u,xs[j]? = some u→w.cell? ((⟨g,off,none⟩:Addr).add j) = some u:=fun j u hj => by
    have hjl:j < xs.length:=(List.getElem?_eq_some_iff.1 hj).1
    rw [add_mk,cell_of_row w g (off + j) cur e (0,0) hh,← Array.getElem?_toList]
    rw [← ht',List.getElem?_take,if_pos hjl,List.getElem?_drop] at hj
    exact hj
  obtain ⟨v',w',hr,ho,hgr⟩:=run_append_arg_grows (P:=P) w t ty e i z 1 bytes ht hi hz hsize hby hzs (by decide) ⟨g,off,none⟩ xs.length cap xs (by omega) holds ⟨a,0,none⟩ 1 1 [x] rfl hnews (by omega) h63 hbytes
  refine ⟨v',w',hr,?_,⟨hgr.os,hgr.tape,hgr.output,hgr.size,fun k hk _ => hgr.block k hk (fun e => by cases e)⟩,?_⟩
  ·rcases ho.2 with ⟨_,h0⟩ | ⟨g',cap',cur',rfl,hb',hh',hc',hm',hs',ht2⟩
   ·exact absurd h0 (Nat.succ_ne_zero _)
   ·refine ⟨g',0,cap',cur',by rw [List.length_append]; rfl,by omega,hh',by rw [List.length_append]; exact hc',by omega,by omega,?_⟩
    rw [List.drop_zero,List.length_append,List.length_singleton]
    rwa [Nat.mul_one] at ht2
  ·right
   rcases ho.2 with ⟨_,h0⟩ | ⟨g',cap',cur',rfl,hb',hh',_⟩
   ·exact absurd h0 (Nat.succ_ne_zero _)
   ·intro g2 e
    have e:g' = g2:=Option.some.inj e
    omega
theorem wpList_append_q {ops:Array Oper} {rest:List Oper} {o:Oper} {a:Act} {Q:Exit→Act→World→Prop} (hgd:o.guard = none) (s y:Operand) (t:TypeId)
    (ho:o.op = .call { callee:=.builtin .append,args:=#[s,y],argTypes:=#[t,t] })
    (base:Nat) (e:TypeId) (i:TypeInfo) (z:Value) (bytes:Nat) (ht:P.underlying t = some (.slice e)) (hi:P.info? e = some i) (hz:i.zero = some z) (hsize:i.size = 1) (hby:i.bytes = bytes) (hzs:z.cells.size = 1)
    (v:Value) (xs:List Value) (hs:a.eval s = v) (hown:OwnQ w base e v xs) (b:Nat) (x:Value) (hy:a.eval y = .slice (some ⟨b,0,none⟩) 1 1) (hx:w.cell? ⟨b,0,none⟩ = some x) (h1:x.oneCell' = true)
    (h63:xs.length + 1≤maxLen) (hbytes:(xs.length + 1) * bytes≤140737488355328) (hbase:base≤w.heap.size)
    (h:∀ v' w',OwnQ w' base e v' (xs ++ [x])→w.grownBy w' (qBlock v)→(qBlock v' = qBlock v∨∀ g,qBlock v' = some g→w.heap.size≤g)→wpList P ops Q rest (a.put o.dst v') w'):wpList P ops Q (o :: rest) a w:=by
 refine wpList_plain hgd fun K hK => ?_
 obtain ⟨v',w',hr,h2,h3,h4⟩:=run_append_q (P:=P) w base t o.type e i z bytes ht hi hz hsize hby hzs v xs hown b x hx h1 h63 hbytes hbase
 unfold Oper.wp execOp
 simp only [ho,resolve,invoke,builtin,Sem.run_bind,Sem.run_pure,Result.andThen_ok,List.map_toArray,List.map_cons,List.map_nil,hs,hy,hr]
 exact hK _ _ (h v' w' h2 h3 h4)
end
end Go.Proofs.YtcondkihpmmnnaaGreatDoor
namespace Go.Proofs.YtcondkihpmmnnaaGreatDoor
open Go.RowKit Go.Sort
def OfPost (t:Fs) (most:Int) (w:World) (e:Ending) (w':World):Prop :=
 Below w.heap.size w w'∧∃ v q k,e = .returned (.tuple #[v,.int .i64 k])∧SeqNew w.heap.size w' q v∧(k≠0→q = seq0)∧(¬ (fckB t = true∧1≤most∧most≤1024)→k = 1) ∧
  (fckB t = true→1≤most→most≤1024→∃ u f,Trims t u f∧fckB u = true∧match allF u most.toNat with
   | .error e => k = e
   | .ok q' => k = 0∧q = q')
theorem fck_nums {u:Fs} (h:fckB u = true):0≤u.n∧u.n≤1024∧u.arcs.length≤16384∧u.starts.length≤1024∧u.ends.length≤1024∧(∀ x∈u.starts,0≤x.st∧x.st < u.n∧x.out.size≤1024)∧(∀ x∈u.ends,0≤x.st∧x.st < u.n∧x.out.size≤1024) ∧
    ∀ x∈u.arcs,0≤x.fr∧x.fr < u.n∧0≤x.to∧x.to < u.n∧x.out.size≤1024:=by
 unfold fckB tipsB at h
 simp only [Bool.and_eq_true,decide_eq_true_eq,List.all_eq_true] at h
 obtain ⟨⟨⟨⟨⟨h1,h2⟩,h3⟩,h4,h4'⟩,h5,h5'⟩,h6⟩:=h
 refine ⟨h1,h2,h3,h4,h5,fun x hx => ?_,fun x hx => ?_,fun x hx => ?_⟩
 ·have:=h4' x hx; unfold tipB stB' at this; simp only [Bool.and_eq_true,decide_eq_true_eq] at this; exact ⟨this.1.1,this.1.2,this.2⟩
 ·have:=h5' x hx; unfold tipB stB' at this; simp only [Bool.and_eq_true,decide_eq_true_eq] at this; exact ⟨this.1.1,this.1.2,this.2⟩
 ·have:=h6 x hx; unfold arcB stB' at this; simp only [Bool.and_eq_true,decide_eq_true_eq] at this; exact ⟨this.1.1.1.1,this.1.1.1.2,this.1.1.2.1,this.1.1.2.2,this.2⟩
structure OfW (W4 wr:World) (G MB LA LE n:Nat) (most:Int) (vA vE:List Value) (rA:Nat→List Ar) (rE:Nat→List ByteArray):Prop where
 box:Blk wr G 78 (mkCells (.slice (some ⟨LA,0,none⟩) n n) (.slice (some ⟨LE,0,none⟩) n n) most MB ⟨#[]⟩ (.slice none 0 0) (.slice none 0 0) (.slice none 0 0) (.slice none 0 0) (.slice none 0 0))
 num:Num wr MB []
 gA:Grp encA 8 wr W4.heap.size LA n 30 61 vA rA
 gE:Grp encO 1 wr W4.heap.size LE n 25 9 vE rE
 lG:W4.heap.size≤G
 lM:W4.heap.size≤MB
 bel:Below W4.heap.size W4 wr
section
variable {W4 wr w':World} {G MB LA LE n:Nat} {most:Int} {vA vE:List Value} {rA:Nat→List Ar} {rE:Nat→List ByteArray}
theorem OfW.call (h:OfW W4 wr G MB LA LE n most vA vE rA rE) (hb:Below wr.heap.size wr w'):OfW W4 w' G MB LA LE n most vA vE rA rE :=
 ⟨h.box.below hb h.box.lt,h.num.below hb (Nat.le_refl _),h.gA.call hb,h.gE.call hb,h.lG,h.lM,h.bel.trans (hb.mono h.bel.size)⟩
theorem OfW.lA (h:OfW W4 wr G MB LA LE n most vA vE rA rE):W4.heap.size≤LA∧LA < wr.heap.size:=own_lt h.gA.own LA rfl
theorem OfW.lE (h:OfW W4 wr G MB LA LE n most vA vE rA rE):W4.heap.size≤LE∧LE < wr.heap.size:=own_lt h.gE.own LE rfl
theorem OfW.putA (h:OfW W4 wr G MB LA LE n most vA vE rA rE) (s:Nat) (hs:s < n) {v':Value} (x:Ar) (hg:wr.grownBy w' (vA.getD s nilV).ownBlock) (ho:w'.ownsRow W4.heap.size 61 8 v' ((rA s).length + 1) (encs encA (rA s) ++ encA x)) (hl:v'.ownBlock = (vA.getD s nilV).ownBlock∨v'.ownBlock = some wr.heap.size) :
    OfW W4 (w'.setCell ⟨LA,s,none⟩ v') G MB LA LE n most (vA.set s v') vE (fun t => if t = s then rA s ++ [x] else rA t) rE:=by
 have hr:=h.gA.row s hs
 have kE:=h.gE.kept hg (fun e => apart_types hr h.gE.own (by decide) LE e rfl) (fun t ht => (apart_types (h.gE.row t ht) hr (by decide)).or_none)
 have hbz:=h.bel.size
 refine ⟨(blk_keep h.box hg (own_blk hr h.box (by decide))).far (p:=⟨LA,s,none⟩) (fun e => own_blk h.gA.own h.box (by decide) (by rw [e]; rfl)) _,(num_grown h.num hr hg).setCell (fun e => num_own h.num h.gA.own (by rw [← e]; rfl)) _,h.gA.put (by decide) s hs x hg ho hl,?_,h.lG,h.lM,?_⟩
 ·refine kE.set (p:=⟨LA,s,none⟩) (fun e => apart_types h.gA.own h.gE.own (by decide) LA rfl (by rw [show LE = LA from e.symm]; rfl)) (fun t ht e => ?_) _
  exact apart_types (h.gE.row t ht) h.gA.own (by decide) LA e rfl
 ·exact (h.bel.grown hg hbz (fun k hk => (own_lt hr k hk).1)).setCell (p:=⟨LA,s,none⟩) h.lA.1 _
theorem OfW.putE (h:OfW W4 wr G MB LA LE n most vA vE rA rE) (s:Nat) (hs:s < n) {v':Value} (x:ByteArray) (hg:wr.grownBy w' (vE.getD s nilV).ownBlock) (ho:w'.ownsRow W4.heap.size 9 1 v' ((rE s).length + 1) (encs encO (rE s) ++ encO x)) (hl:v'.ownBlock = (vE.getD s nilV).ownBlock∨v'.ownBlock = some wr.heap.size) :
    OfW W4 (w'.setCell ⟨LE,s,none⟩ v') G MB LA LE n most vA (vE.set s v') rA (fun t => if t = s then rE s ++ [x] else rE t):=by
 have hr:=h.gE.row s hs
 have kA:=h.gA.kept hg (fun e => apart_types hr h.gA.own (by decide) LA e rfl) (fun t ht => (apart_types (h.gA.row t ht) hr (by decide)).or_none)
 have hbz:=h.bel.size
 refine ⟨(blk_keep h.box hg (own_blk hr h.box (by decide))).far (p:=⟨LE,s,none⟩) (fun e => own_blk h.gE.own h.box (by decide) (by rw [e]; rfl)) _,(num_grown h.num hr hg).setCell (fun e => num_own h.num h.gE.own (by rw [← e]; rfl)) _,?_,h.gE.put (by decide) s hs x hg ho hl,h.lG,h.lM,?_⟩
 ·refine kA.set (p:=⟨LE,s,none⟩) (fun e => apart_types h.gA.own h.gE.own (by decide) LE (by rw [show LE = LA from e]; rfl) rfl) (fun t ht e => ?_) _
  exact apart_types (h.gA.row t ht) h.gE.own (by decide) LE e rfl
 ·exact (h.bel.grown hg hbz (fun k hk => (own_lt hr k hk).1)).setCell (p:=⟨LE,s,none⟩) h.lE.1 _
theorem OfW.pA (h:OfW W4 wr G MB LA LE n most vA vE rA rE):GrpP (Old wr.heap.size G MB) encA 8 wr LA n rA :=
 GrpP.of_grp h.gA ⟨h.lA.2,fun e => own_blk h.gA.own h.box (by decide) (by rw [e]; rfl),fun e => num_own h.num h.gA.own (by rw [e]; rfl)⟩ fun s g hs e =>
  ⟨(own_lt (h.gA.row s hs) g e).2,fun e2 => own_blk (h.gA.row s hs) h.box (by decide) (by rw [← e2]; exact e),fun e2 => num_own h.num (h.gA.row s hs) (by rw [← e2]; exact e)⟩
theorem OfW.pE (h:OfW W4 wr G MB LA LE n most vA vE rA rE):GrpP (Old wr.heap.size G MB) encO 1 wr LE n rE :=
 GrpP.of_grp h.gE ⟨h.lE.2,fun e => own_blk h.gE.own h.box (by decide) (by rw [e]; rfl),fun e => num_own h.num h.gE.own (by rw [e]; rfl)⟩ fun s g hs e =>
  ⟨(own_lt (h.gE.row s hs) g e).2,fun e2 => own_blk (h.gE.row s hs) h.box (by decide) (by rw [← e2]; exact e),fun e2 => num_own h.num (h.gE.row s hs) (by rw [← e2]; exact e)⟩
end
theorem below_set5 {B gq:Nat} {w W:World} (h:Below B w W) (hq:B≤gq) (v0 v1 v2 v3 v4:Value):Below B w (((((W.setCell ⟨gq,0,none⟩ v0).setCell ⟨gq,1,none⟩ v1).setCell ⟨gq,2,none⟩ v2).setCell ⟨gq,3,none⟩ v3).setCell ⟨gq,4,none⟩ v4) :=
 ((((h.setCell (p:=⟨gq,0,none⟩) hq _).setCell (p:=⟨gq,1,none⟩) hq _).setCell (p:=⟨gq,2,none⟩) hq _).setCell (p:=⟨gq,3,none⟩) hq _).setCell (p:=⟨gq,4,none⟩) hq _
theorem blk_set5 {gq:Nat} {W:World} {T:TypeId} {c0 c1 c2 c3 c4:Value} (h:Blk W gq T #[c0,c1,c2,c3,c4]) (v0 v1 v2 v3 v4:Value):Blk (((((W.setCell ⟨gq,0,none⟩ v0).setCell ⟨gq,1,none⟩ v1).setCell ⟨gq,2,none⟩ v2).setCell ⟨gq,3,none⟩ v3).setCell ⟨gq,4,none⟩ v4) gq T #[v0,v1,v2,v3,v4] :=
 ((((h.set_ 0 v0).set_ 1 v1).set_ 2 v2).set_ 3 v3).set_ 4 v4
set_option maxRecDepth 100000 in
theorem of_ret {R:Ending→World→Prop} {tmps:Array Value} {gq:Nat} {c0 c1 c2 c3 c4 k:Value} {W:World} (h4:tmps[4]? = some (.pointer (some ⟨gq,0,none⟩))) (h5:tmps[5]? = some k)
    (hq:Blk W gq 27 #[c0,c1,c2,c3,c4]) (h:R (.returned (.tuple #[.agg #[c0,c1,c2,c3,c4],k])) W):bodyPost Tryz.prog Tryz.f10 R Exit.ret ⟨tmps,[]⟩ W:=by
 have q0:=hq.cell 0
 have q1:=hq.cell 1
 have q2:=hq.cell 2
 have q3:=hq.cell 3
 have q4:=hq.cell 4
 exact bodyPost_ret (v:=.tuple #[.agg #[c0,c1,c2,c3,c4],k]) (by simp [results,Tryz.results10,go_sem,q0,q1,q2,q3,q4,h4,h5]) rfl h
theorem own_base {w:World} {base base':Nat} {e:TypeId} {size n:Nat} {v:Value} {xs:List Value} (h:w.ownsRow base e size v n xs) (hb:base'≤base):w.ownsRow base' e size v n xs:=by
 refine ⟨h.1,?_⟩
 rcases h.2 with h0 | ⟨g,cap,cur,hv,hbg,hh,rest⟩
 ·exact .inl h0
 ·exact .inr ⟨g,cap,cur,hv,Nat.le_trans hb hbg,hh,rest⟩
theorem grp_nils {α:Type} {enc:α→List Value} {k:Nat} {w':World} {base L n:Nat} {eL e:TypeId} {rows:Nat→List α} (h:w'.ownsRow base eL 1 (.slice (some ⟨L,0,none⟩) n n) n (List.replicate n nilV)) (hr:∀ s,rows s = []):Grp enc k w' base L n eL e (List.replicate n nilV) rows:=by
 have hv:∀ s,(List.replicate n nilV).getD s nilV = nilV:=by
  intro s
  rw [List.getD_eq_getElem?_getD,List.getElem?_replicate]
  split <;> rfl
 refine ⟨h,fun s _ => ?_,fun s t _ _ _ => ?_⟩
 ·rw [hv,hr]; exact World.ownsRow_nil _ _ _ _
 ·rw [hv,hv]; intro g hg; cases hg
theorem encO_one (x:ByteArray):∀ v∈encO x,v.oneCell' = true:=by
 intro v hv
 simp [encO] at hv
 subst hv; rfl
def arcsK (l:List Ar) (k s:Nat):List Ar:=(l.take k).filter fun a => a.fr == (s:Int)
def endsK (l:List Tp) (k s:Nat):List ByteArray:=((l.take k).filter fun z => z.st == (s:Int)).map Tp.out
theorem arcsK_succ (l:List Ar) (k:Nat) (hk:k < l.length) (s:Nat):arcsK l (k + 1) s = if (s:Int) = (l.getD k ar0).fr then arcsK l k s ++ [l.getD k ar0] else arcsK l k s:=by
 unfold arcsK
 rw [take_next l ar0 k hk,List.filter_append]
 by_cases h:(l.getD k ar0).fr = (s:Int)
 ·rw [if_pos h.symm,List.filter_cons_of_pos (by simpa using h)]; rfl
 ·rw [if_neg (fun x => h x.symm),List.filter_cons_of_neg (by simpa using h)]; simp
theorem endsK_succ (l:List Tp) (k:Nat) (hk:k < l.length) (s:Nat):endsK l (k + 1) s = if (s:Int) = (l.getD k tp0).st then endsK l k s ++ [(l.getD k tp0).out] else endsK l k s:=by
 unfold endsK
 rw [take_next l tp0 k hk,List.filter_append,List.map_append]
 by_cases h:(l.getD k tp0).st = (s:Int)
 ·rw [if_pos h.symm,List.filter_cons_of_pos (by simpa using h)]; rfl
 ·rw [if_neg (fun x => h x.symm),List.filter_cons_of_neg (by simpa using h)]; simp
theorem arcsK_len (l:List Ar) (k s:Nat):(arcsK l k s).length≤l.length:=by
 unfold arcsK
 exact Nat.le_trans (List.length_filter_le _ _) (by rw [List.length_take]; omega)
theorem endsK_len (l:List Tp) (k s:Nat):(endsK l k s).length≤l.length:=by
 unfold endsK
 rw [List.length_map]
 exact Nat.le_trans (List.length_filter_le _ _) (by rw [List.length_take]; omega)
theorem arcsK_all (l:List Ar):arcsK l l.length = arcsO l:=by funext s; unfold arcsK arcsO; rw [List.take_length]
theorem endsK_all (l:List Tp):endsK l l.length = endO l:=by funext s; unfold endsK endO; rw [List.take_length]
end Go.Proofs.YtcondkihpmmnnaaGreatDoor
namespace Go.Proofs.YtcondkihpmmnnaaGreatDoor
open Go.RowKit Go.Sort
abbrev mk0 (v:Value) (most:Int) (MB:Nat):Array Value:=#[v,.slice none 0 0,.int .i64 most,.slice none 0 0,.map (some MB),.string ⟨#[]⟩,.slice none 0 0,.slice none 0 0,.slice none 0 0,.slice none 0 0]
structure FldInv (w0:World) (B0 G MB n:Nat) (most:Int) (b:Act) (is:List Nat) (a:Act) (W:World) (LA LE:Nat):Prop where
 nd:is.Nodup
 sub:∀ i∈is,i∈[4,7,8,9,10]
 defers:a.defers = b.defers
 size:a.tmps.size = b.tmps.size
 same:∀ x,x ∉ [41,44,45,46]→a.tmps[x]? = b.tmps[x]?
 bel:Below B0 w0 W
 sz:w0.heap.size≤W.heap.size
 keep:∀ g,g < w0.heap.size→g≠G→W.heap[g]? = w0.heap[g]?
 bG:B0≤G
 dep:10 ∉ is→4 ∉ is
 m4:4 ∉ is→a.tmps[41]? = some (.slice (some ⟨LA,0,none⟩) n n)∧W.ownsRow w0.heap.size 30 1 (.slice (some ⟨LA,0,none⟩) n n) n (List.replicate n nilV)
 m7:7 ∉ is→a.tmps[44]? = some (.slice (some ⟨LE,0,none⟩) n n)∧W.ownsRow w0.heap.size 25 1 (.slice (some ⟨LE,0,none⟩) n n) n (List.replicate n nilV)
 m8:8 ∉ is→a.tmps[45]? = some (.pointer (some ⟨G,0,none⟩))
 m9:9 ∉ is→a.tmps[46]? = some (.pointer (some ⟨G,0,none⟩))
 box:Blk W G 78 (mk0 (if 10∈is then nilV else .slice (some ⟨LA,0,none⟩) n n) most MB)
 lG:G < w0.heap.size
section
variable {w0 W W':World} {B0 G MB n:Nat} {most:Int} {b a:Act} {is:List Nat} {LA LE:Nat}
theorem fld_erase (hd:is.Nodup) (i j:Nat):j ∉ is.erase i↔j = i∨j ∉ is:=by
 rw [hd.mem_erase_iff]
 by_cases e:j = i <;> simp [e]
theorem fld_get {a b:Act} {d:Tmp} (hd:d∈[41,44,45,46]) (hz:a.tmps.size = b.tmps.size) (hb:46 < b.tmps.size) (v:Value):(a.put (some d) v).tmps[d]? = some v:=by
 refine put_same ?_ v
 rw [hz]
 simp only [List.mem_cons,List.not_mem_nil,or_false] at hd
 rcases hd with rfl | rfl | rfl | rfl
 ·exact Nat.lt_trans (by decide) hb
 ·exact Nat.lt_trans (by decide) hb
 ·exact Nat.lt_trans (by decide) hb
 ·exact hb
theorem FldInv.make4 (h:FldInv w0 B0 G MB n most b is a W LA LE) (hi:4∈is) (hb:46 < b.tmps.size) (hB:Below W.heap.size W W') (ho:W'.ownsRow w0.heap.size 30 1 (.slice (some ⟨W.heap.size,0,none⟩) n n) n (List.replicate n nilV)) :
    FldInv w0 B0 G MB n most b (is.erase 4) (a.put (some 41) (.slice (some ⟨W.heap.size,0,none⟩) n n)) W' W.heap.size LE:=by
 have e:=fld_erase h.nd 4
 have h10:10∈is:=Classical.byContradiction fun c => h.dep c hi
 have h10':10∈is.erase 4:=(h.nd.mem_erase_iff).2 ⟨by decide,h10⟩
 have hbx:=h.box
 rw [if_pos h10] at hbx
 exact { nd:=h.nd.erase 4,sub:=fun i hi => h.sub i (List.mem_of_mem_erase hi),defers:=h.defers,size:=(put_size _).trans h.size,same:=put_agrees (by simp) h.same,bel:=h.bel.trans (hB.mono (Nat.le_trans h.bG (Nat.le_of_lt (Nat.lt_of_lt_of_le h.lG h.sz)))),sz:=Nat.le_trans h.sz hB.size,keep:=fun g hg hn => (hB.block g (Nat.lt_of_lt_of_le hg h.sz)).trans (h.keep g hg hn),bG:=h.bG,lG:=h.lG
         dep:=fun c => absurd h10' c
         m4:=fun _ => ⟨fld_get (by simp) h.size hb _,ho⟩
         m7:=fun c => by
          obtain ⟨x1,x2⟩:=h.m7 ((((e 7).1 c).resolve_left (by decide)))
          exact ⟨(put_other (by decide) _).trans x1,own_below x2 hB⟩
         m8:=fun c => (put_other (by decide) _).trans (h.m8 (((e 8).1 c).resolve_left (by decide)))
         m9:=fun c => (put_other (by decide) _).trans (h.m9 (((e 9).1 c).resolve_left (by decide)))
         box:=by rw [if_pos h10']; exact hbx.below hB hbx.lt }
theorem FldInv.make7 (h:FldInv w0 B0 G MB n most b is a W LA LE) (hb:46 < b.tmps.size) (hB:Below W.heap.size W W') (ho:W'.ownsRow w0.heap.size 25 1 (.slice (some ⟨W.heap.size,0,none⟩) n n) n (List.replicate n nilV)) :
    FldInv w0 B0 G MB n most b (is.erase 7) (a.put (some 44) (.slice (some ⟨W.heap.size,0,none⟩) n n)) W' LA W.heap.size:=by
 have e:=fld_erase h.nd 7
 have h10:10∈is.erase 7↔10∈is:=by rw [h.nd.mem_erase_iff]; simp
 exact { nd:=h.nd.erase 7,sub:=fun i hi => h.sub i (List.mem_of_mem_erase hi),defers:=h.defers,size:=(put_size _).trans h.size,same:=put_agrees (by simp) h.same,bel:=h.bel.trans (hB.mono (Nat.le_trans h.bG (Nat.le_of_lt (Nat.lt_of_lt_of_le h.lG h.sz)))),sz:=Nat.le_trans h.sz hB.size,keep:=fun g hg hn => (hB.block g (Nat.lt_of_lt_of_le hg h.sz)).trans (h.keep g hg hn),bG:=h.bG,lG:=h.lG
         dep:=fun c => (e 4).2 (.inr (h.dep (fun x => c (h10.2 x))))
         m4:=fun c => by
          obtain ⟨x1,x2⟩:=h.m4 ((((e 4).1 c).resolve_left (by decide)))
          exact ⟨(put_other (by decide) _).trans x1,own_below x2 hB⟩
         m7:=fun _ => ⟨fld_get (by simp) h.size hb _,ho⟩
         m8:=fun c => (put_other (by decide) _).trans (h.m8 (((e 8).1 c).resolve_left (by decide)))
         m9:=fun c => (put_other (by decide) _).trans (h.m9 (((e 9).1 c).resolve_left (by decide)))
         box:=by simp only [h10]; exact h.box.below hB h.box.lt }
theorem FldInv.make8 (h:FldInv w0 B0 G MB n most b is a W LA LE) (hb:46 < b.tmps.size):FldInv w0 B0 G MB n most b (is.erase 8) (a.put (some 45) (.pointer (some ⟨G,0,none⟩))) W LA LE:=by
 have e:=fld_erase h.nd 8
 have h10:10∈is.erase 8↔10∈is:=by rw [h.nd.mem_erase_iff]; simp
 exact { nd:=h.nd.erase 8,sub:=fun i hi => h.sub i (List.mem_of_mem_erase hi),defers:=h.defers,size:=(put_size _).trans h.size,same:=put_agrees (by simp) h.same,bel:=h.bel,sz:=h.sz,keep:=h.keep,bG:=h.bG,lG:=h.lG
         dep:=fun c => (e 4).2 (.inr (h.dep (fun x => c (h10.2 x))))
         m4:=fun c => by
          obtain ⟨x1,x2⟩:=h.m4 ((((e 4).1 c).resolve_left (by decide)))
          exact ⟨(put_other (by decide) _).trans x1,x2⟩
         m7:=fun c => by
          obtain ⟨x1,x2⟩:=h.m7 ((((e 7).1 c).resolve_left (by decide)))
          exact ⟨(put_other (by decide) _).trans x1,x2⟩
         m8:=fun _ => fld_get (by simp) h.size hb _
         m9:=fun c => (put_other (by decide) _).trans (h.m9 (((e 9).1 c).resolve_left (by decide)))
         box:=by simp only [h10]; exact h.box }
theorem FldInv.make9 (h:FldInv w0 B0 G MB n most b is a W LA LE) (hb:46 < b.tmps.size):FldInv w0 B0 G MB n most b (is.erase 9) (a.put (some 46) (.pointer (some ⟨G,0,none⟩))) W LA LE:=by
 have e:=fld_erase h.nd 9
 have h10:10∈is.erase 9↔10∈is:=by rw [h.nd.mem_erase_iff]; simp
 exact { nd:=h.nd.erase 9,sub:=fun i hi => h.sub i (List.mem_of_mem_erase hi),defers:=h.defers,size:=(put_size _).trans h.size,same:=put_agrees (by simp) h.same,bel:=h.bel,sz:=h.sz,keep:=h.keep,bG:=h.bG,lG:=h.lG
         dep:=fun c => (e 4).2 (.inr (h.dep (fun x => c (h10.2 x))))
         m4:=fun c => by
          obtain ⟨x1,x2⟩:=h.m4 ((((e 4).1 c).resolve_left (by decide)))
          exact ⟨(put_other (by decide) _).trans x1,x2⟩
         m7:=fun c => by
          obtain ⟨x1,x2⟩:=h.m7 ((((e 7).1 c).resolve_left (by decide)))
          exact ⟨(put_other (by decide) _).trans x1,x2⟩
         m8:=fun c => (put_other (by decide) _).trans (h.m8 (((e 8).1 c).resolve_left (by decide)))
         m9:=fun _ => fld_get (by simp) h.size hb _
         box:=by simp only [h10]; exact h.box }
theorem FldInv.make10 (h:FldInv w0 B0 G MB n most b is a W LA LE) (hi:10∈is) (h4:4 ∉ is):FldInv w0 B0 G MB n most b (is.erase 10) (a.put none undef) (W.setCell ⟨G,0,none⟩ (.slice (some ⟨LA,0,none⟩) n n)) LA LE:=by
 have e:=fld_erase h.nd 10
 have hbx:=h.box
 rw [if_pos hi] at hbx
 have h10:10 ∉ is.erase 10:=(e 10).2 (.inl rfl)
 have own:∀ {el:TypeId} {v:Value} {xs:List Value},el≠78→W.ownsRow w0.heap.size el 1 v n xs→(W.setCell ⟨G,0,none⟩ (.slice (some ⟨LA,0,none⟩) n n)).ownsRow w0.heap.size el 1 v n xs:=fun hne ho => own_setCell ho (own_blk ho hbx hne) _
 exact { nd:=h.nd.erase 10,sub:=fun i hi => h.sub i (List.mem_of_mem_erase hi),defers:=h.defers,size:=h.size,same:=h.same,bel:=h.bel.setCell (p:=⟨G,0,none⟩) h.bG _,sz:=by simpa using h.sz,keep:=fun g hg hn => (Below.heap_setCell _ _ _ _ (show g≠G from hn)).trans (h.keep g hg hn),bG:=h.bG,lG:=h.lG
         dep:=fun _ => (e 4).2 (.inr h4)
         m4:=fun c => by
          obtain ⟨x1,x2⟩:=h.m4 h4
          exact ⟨x1,own (by decide) x2⟩
         m7:=fun c => by
          obtain ⟨x1,x2⟩:=h.m7 ((((e 7).1 c).resolve_left (by decide)))
          exact ⟨x1,own (by decide) x2⟩
         m8:=fun c => h.m8 (((e 8).1 c).resolve_left (by decide))
         m9:=fun c => h.m9 (((e 9).1 c).resolve_left (by decide))
         box:=by rw [if_neg h10]; exact hbx.set_ 0 _ }
theorem FldInv.start (b:Act) (w0:World) (hG:B0≤G) (hbox:Blk w0 G 78 (mk0 nilV most MB)):FldInv w0 B0 G MB n most b [4,7,8,9,10] b w0 LA LE where
 nd:=by decide
 sub:=fun i hi => hi
 defers:=rfl
 size:=rfl
 same:=fun _ _ => rfl
 bel:=Below.refl _ _
 sz:=Nat.le_refl _
 keep:=fun _ _ _ => rfl
 bG:=hG
 lG:=hbox.lt
 dep:=fun c => absurd (by simp) c
 m4:=fun c => absurd (by simp) c
 m7:=fun c => absurd (by simp) c
 m8:=fun c => absurd (by simp) c
 m9:=fun c => absurd (by simp) c
 box:=hbox
end
def FldGoal (Sx:World→Prop) (w:World) (B0 G MB n:Nat) (most:Int) (kont:Act→Nat→Nat→World→Prop) (is:List Nat) (a:Act) (W:World):Prop :=
 ∃ b LA LE,(46 < b.tmps.size∧b.tmps[37]? = some (.pointer (some ⟨G,0,none⟩))∧b.tmps[40]? = some (.int .i64 (n:Int))∧b.tmps[43]? = some (.int .i64 (n:Int)))∧Sx W∧FldInv w.drew B0 G MB n most b is a W LA LE ∧
  ∀ LA LE W,Below B0 w W→w.heap.size≤W.heap.size→(∀ g,g < w.heap.size→g≠G→W.heap[g]? = w.heap[g]?)→W.ownsRow w.heap.size 30 1 (.slice (some ⟨LA,0,none⟩) n n) n (List.replicate n nilV)→W.ownsRow w.heap.size 25 1 (.slice (some ⟨LE,0,none⟩) n n) n (List.replicate n nilV)→Blk W G 78 (mk0 (.slice (some ⟨LA,0,none⟩) n n) most MB)→kont b LA LE W
theorem FldGoal.start {Sx:World→Prop} {w:World} {B0 G MB n:Nat} {most:Int} {kont:Act→Nat→Nat→World→Prop} (b:Act) (hs:46 < b.tmps.size∧b.tmps[37]? = some (.pointer (some ⟨G,0,none⟩))∧b.tmps[40]? = some (.int .i64 (n:Int))∧b.tmps[43]? = some (.int .i64 (n:Int))) (hG:B0≤G) (hbox:Blk w G 78 (mk0 nilV most MB)) (hS0:Sx w.drew)
    (hk:∀ LA LE W,Below B0 w W→w.heap.size≤W.heap.size→(∀ g,g < w.heap.size→g≠G→W.heap[g]? = w.heap[g]?)→W.ownsRow w.heap.size 30 1 (.slice (some ⟨LA,0,none⟩) n n) n (List.replicate n nilV)→W.ownsRow w.heap.size 25 1 (.slice (some ⟨LE,0,none⟩) n n) n (List.replicate n nilV)→Blk W G 78 (mk0 (.slice (some ⟨LA,0,none⟩) n n) most MB)→kont b LA LE W) :
    FldGoal Sx w B0 G MB n most kont [4,7,8,9,10] b w.drew:=⟨b,0,0,hs,hS0,FldInv.start b w.drew hG hbox,hk⟩
set_option maxHeartbeats 1000000 in
theorem fields_below {id:Nat} {base:Act} {w:World} {o0 o1 o2 o3 o4 o5 o6 o7 o8 o9 o10 o11 o12 o13:Oper} {Q:Exit→Act→World→Prop} {B0 G MB n:Nat} {most:Int} {iA iE:TypeInfo} (Sx:World→Prop)
    (hm:Tryz.prog.follows .mixedOrders = true) (hB:holdGB .any #[o0,o1,o2,o3,o4,o5,o6,o7,o8,o9,o10,o11,o12,o13] 11 [0,1,2,3,5,6] [4,7,8,9,10] (fun i => if i = 8 then [4] else if i = 9 then [8] else if i = 10 then [9,4] else []) = true)
    (a1:Tryz.prog.info? 30 = some iA) (a2:iA.zero = some nilV) (a3:iA.size = 1) (a4:iA.bytes = 24) (b1:Tryz.prog.info? 25 = some iE) (b2:iE.zero = some nilV) (b3:iE.size = 1) (b4:iE.bytes = 24) (hn:n≤1024)
    (p4:o4.op = Op.makeSlice 66 (.tmp 40) (.tmp 40)) (d4:o4.dst = some 41) (g4:o4.guard = none)
    (p7:o7.op = Op.makeSlice 23 (.tmp 43) (.tmp 43)) (d7:o7.dst = some 44) (g7:o7.guard = none)
    (g8:o8.guard = none) (g9:o9.guard = none) (g10:o10.guard = none)
    (h8:∀ (a:Act) (W:World) (K:Act→World→Prop),a.eval (.tmp 37) = .pointer (some ⟨G,0,none⟩)→K (a.put (some 45) (.pointer (some ⟨G,0,none⟩))) W→o8.wp Tryz.prog a W K (NoPanic Q))
    (h9:∀ (a:Act) (W:World) (K:Act→World→Prop),a.eval (.tmp 45) = .pointer (some ⟨G,0,none⟩)→K (a.put (some 46) (.pointer (some ⟨G,0,none⟩))) W→o9.wp Tryz.prog a W K (NoPanic Q))
    (h10:∀ (a:Act) (W:World) (K:Act→World→Prop) (LA:Nat),a.eval (.tmp 46) = .pointer (some ⟨G,0,none⟩)→a.eval (.tmp 41) = .slice (some ⟨LA,0,none⟩) n n→W.cell? ⟨G,0,none⟩ = some nilV→W.frozen? ⟨G,0,none⟩ = false→K (a.put none undef) (W.setCell ⟨G,0,none⟩ (.slice (some ⟨LA,0,none⟩) n n))→o10.wp Tryz.prog a W K (NoPanic Q))
    (hS0:Sx w.drew) (hS1:∀ W W',Sx W→Below W.heap.size W W'→Sx W') (hS2:∀ W u,Sx W→Sx (W.setCell ⟨G,0,none⟩ u))
    (h:wpQuiet Tryz.prog #[o0,o1,o2,o3,o4,o5,o6,o7,o8,o9,o10,o11,o12,o13] (fun w' => ∃ p:Held Sx,w' = p.w)
     (fun b => FldGoal Sx w B0 G MB n most (fun b LA LE W => wpList Tryz.prog #[o0,o1,o2,o3,o4,o5,o6,o7,o8,o9,o10,o11,o12,o13] (NoPanic Q) [o11,o12,o13] ((((b.put (some 41) (.slice (some ⟨LA,0,none⟩) n n)).put (some 44) (.slice (some ⟨LE,0,none⟩) n n)).put (some 45) (.pointer (some ⟨G,0,none⟩))).put (some 46) (.pointer (some ⟨G,0,none⟩))) W) [4,7,8,9,10] b w.drew)
     (pickOps [o0,o1,o2,o3,o4,o5,o6,o7,o8,o9,o10,o11,o12,o13] [0,1,2,3,5,6]) base) :
    (Code.region id #[o0,o1,o2,o3,o4,o5,o6,o7,o8,o9,o10,o11,o12,o13] true).wp Tryz.prog Q base w:=by
 refine wp_region_noPanic ?_
 refine wp_region_fanG (l:=[o0,o1,o2,o3,o4,o5,o6,o7,o8,o9,o10,o11,o12,o13]) (fun w' => ∃ p:Held Sx,w' = p.w) 11 [0,1,2,3,5,6] [4,7,8,9,10] (fun i => if i = 8 then [4] else if i = 9 then [8] else if i = 10 then [9,4] else []) _ hm hB rfl (pickOps_map [o0,o1,o2,o3,o4,o5,o6,o7,o8,o9,o10,o11,o12,o13] [0,1,2,3,5,6] rfl) (fun _ _ _ _ _ h => h) ⟨⟨_,hS0⟩,rfl⟩
  (FldGoal Sx w B0 G MB n most fun b LA LE W => wpList Tryz.prog #[o0,o1,o2,o3,o4,o5,o6,o7,o8,o9,o10,o11,o12,o13] (NoPanic Q) [o11,o12,o13] ((((b.put (some 41) (.slice (some ⟨LA,0,none⟩) n n)).put (some 44) (.slice (some ⟨LE,0,none⟩) n n)).put (some 45) (.pointer (some ⟨G,0,none⟩))).put (some 46) (.pointer (some ⟨G,0,none⟩))) W) ?_ ?_ h
 ·rintro is a W ⟨b,LA,LE,⟨hb,s37,s40,s43⟩,hS,hI,hk⟩ i hi hd
  have hc:=hI.sub i hi
  simp only [List.mem_cons,List.not_mem_nil,or_false] at hc
  have t37:=(hI.same 37 (by decide)).trans s37
  have t40:=(hI.same 40 (by decide)).trans s40
  have t43:=(hI.same 43 (by decide)).trans s43
  rcases hc with rfl | rfl | rfl | rfl | rfl
  ·refine ⟨o4,rfl,g4,op_make 40 66 p4 w.drew.heap.size 30 iA _ 1 Tryz.underlying66 a1 a2 a3 n (eval_tmp t40) (by rw [a4]; omega) (by unfold maxLen; omega) hI.sz fun W' ho hB' => ?_⟩
   rw [show nilV.cells = #[nilV] from rfl,Nat.mul_one,toList_madeCells_one] at ho
   have hS':=hS1 W W' hS hB'
   rw [d4]
   exact ⟨⟨⟨W',hS'⟩,rfl⟩,b,_,LE,⟨hb,s37,s40,s43⟩,hS',hI.make4 hi hb hB' ho,hk⟩
  ·refine ⟨o7,rfl,g7,op_make 43 23 p7 w.drew.heap.size 25 iE _ 1 Tryz.underlying23 b1 b2 b3 n (eval_tmp t43) (by rw [b4]; omega) (by unfold maxLen; omega) hI.sz fun W' ho hB' => ?_⟩
   rw [show nilV.cells = #[nilV] from rfl,Nat.mul_one,toList_madeCells_one] at ho
   have hS':=hS1 W W' hS hB'
   rw [d7]
   exact ⟨⟨⟨W',hS'⟩,rfl⟩,b,LA,_,⟨hb,s37,s40,s43⟩,hS',hI.make7 hb hB' ho,hk⟩
  ·exact ⟨o8,rfl,g8,h8 a W _ (eval_tmp t37) ⟨⟨⟨W,hS⟩,rfl⟩,b,LA,LE,⟨hb,s37,s40,s43⟩,hS,hI.make8 hb,hk⟩⟩
  ·exact ⟨o9,rfl,g9,h9 a W _ (eval_tmp (hI.m8 (hd 8 (by decide)))) ⟨⟨⟨W,hS⟩,rfl⟩,b,LA,LE,⟨hb,s37,s40,s43⟩,hS,hI.make9 hb,hk⟩⟩
  ·have n4:=hd 4 (by decide)
   have n9:=hd 9 (by decide)
   have hbx:=hI.box
   rw [if_pos hi] at hbx
   have hS':=hS2 W (.slice (some ⟨LA,0,none⟩) n n) hS
   exact ⟨o10,rfl,g10,h10 a W _ LA (eval_tmp (hI.m9 n9)) (eval_tmp (hI.m4 n4).1) (hbx.cell 0) (hbx.frozen 0) ⟨⟨⟨_,hS'⟩,rfl⟩,b,LA,LE,⟨hb,s37,s40,s43⟩,hS',hI.make10 hi n4,hk⟩⟩
 ·rintro a W ⟨b,LA,LE,hs,hS,hI,hk⟩
  obtain ⟨x4,o4'⟩:=hI.m4 (by simp)
  obtain ⟨x7,o7'⟩:=hI.m7 (by simp)
  have x8:=hI.m8 (by simp)
  have x9:=hI.m9 (by simp)
  have hbx:=hI.box
  rw [if_neg (by simp)] at hbx
  rw [act_eq4 hI.defers hI.size hI.same x4 x7 x8 x9]
  exact hk LA LE W ((Below.refl _ w).drew.trans hI.bel) hI.sz hI.keep o4' o7' hbx
end Go.Proofs.YtcondkihpmmnnaaGreatDoor
