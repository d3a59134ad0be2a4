/- Lemmas, part 43 of 50. No condition. -/
import Derived.Test.YtcondkihpmmnnaaGreatDoorQ36
import Derived.Test.YtcondkihpmmnnaaGreatDoorQ33
import Derived.Test.YtcondkihpmmnnaaGreatDoorQ37
import Derived.Test.YtcondkihpmmnnaaGreatDoorQ40
import Derived.Test.YtcondkihpmmnnaaGreatDoorQ38
namespace Go.Proofs.YtcondkihpmmnnaaGreatDoor
open Go.RowKit Go.Sort
def RowB (P0:Nat) (w:World) (T:TypeId) (v:Value) (xs:List Value):Prop:=∃ g,v = .slice (some ⟨g,0,none⟩) 256 256∧P0≤g∧Blk w g T xs.toArray∧xs.length = 256
structure SqB (W0 wr:World) (gr:Nat) (fr:ByteArray) (vN vO vE vT:Value) (nv ov:List Value) (N:List (List Int)) (O:List (List ByteArray)) (E:List Bool) (T:List ByteArray):Prop where
 box:Blk wr gr 27 #[.string fr,vN,vO,vE,vT]
 oN:wr.ownsRow W0.heap.size 55 1 vN N.length nv
 oO:wr.ownsRow W0.heap.size 25 1 vO O.length ov
 oE:wr.ownsRow W0.heap.size 4 1 vE E.length (E.map Value.bool)
 oT:wr.ownsRow W0.heap.size 9 1 vT T.length (T.map Value.string)
 rN:∀ i,i < N.length→RowB W0.heap.size wr 3 (nv.getD i nilV) ((N.getD i []).map (Value.int .i64))
 rO:∀ i,i < O.length→RowB W0.heap.size wr 9 (ov.getD i nilV) ((O.getD i []).map Value.string)
 ap:∀ i,i < O.length→∀ g,vT.ownBlock = some g→(ov.getD i nilV).ownBlock≠some g
 lo:W0.heap.size≤gr
 bel:Below W0.heap.size W0 wr
theorem RowB.kept {P0:Nat} {w w':World} {T:TypeId} {v:Value} {xs:List Value} {row:Option Nat} (h:RowB P0 w T v xs) (hg:w.grownBy w' row) (hn:∀ g,v.ownBlock = some g→row≠some g):RowB P0 w' T v xs:=by
 obtain ⟨g,rfl,h1,h2,h3⟩:=h
 exact ⟨g,rfl,h1,blk_keep h2 hg (hn g rfl),h3⟩
theorem RowB.ne_own {P0 base n size:Nat} {w:World} {T e:TypeId} {v u:Value} {xs ys:List Value} (h:RowB P0 w T v xs) (ho:w.ownsRow base e size u n ys) (hne:e≠T):∀ g,v.ownBlock = some g→u.ownBlock≠some g:=by
 obtain ⟨g',rfl,_,h2,_⟩:=h
 intro g hg
 obtain rfl:g' = g:=Option.some.inj hg
 exact own_blk ho h2 hne
theorem RowB.ne_box {P0 gr:Nat} {w:World} {T T':TypeId} {v:Value} {xs:List Value} {cs:Array Value} (h:RowB P0 w T v xs) (hb:Blk w gr T' cs) (hne:T≠T'):∀ g,v.ownBlock = some g→some gr≠some g:=by
 obtain ⟨g',rfl,_,h2,_⟩:=h
 intro g hg e
 obtain rfl:g' = g:=Option.some.inj hg
 exact Blk.ne_ h2 hb hne (Option.some.inj e).symm
theorem RowB.set {P0 gr:Nat} {w:World} {T T':TypeId} {v:Value} {xs:List Value} {cs:Array Value} (h:RowB P0 w T v xs) (hb:Blk w gr T' cs) (hne:T≠T') (i:Nat) (u:Value):RowB P0 (w.setCell ⟨gr,i,none⟩ u) T v xs :=
 h.kept (Lib.grownBy_setCell w gr i u) (h.ne_box hb hne)
section
variable {W0 wr w':World} {gr:Nat} {fr:ByteArray} {vN vO vE vT:Value} {nv ov:List Value} {N:List (List Int)} {O:List (List ByteArray)} {E:List Bool} {T:List ByteArray}
theorem SqB.call (h:SqB W0 wr gr fr vN vO vE vT nv ov N O E T) (hb:Below wr.heap.size wr w'):SqB W0 w' gr fr vN vO vE vT nv ov N O E T:=by
 have hg:∀ g,g < wr.heap.size→w'.heap[g]? = wr.heap[g]?:=fun g hg => hb.block g hg
 refine ⟨h.box.below hb h.box.lt,own_below h.oN hb,own_below h.oO hb,own_below h.oE hb,own_below h.oT hb,fun i hi => ?_,fun i hi => ?_,h.ap,h.lo,h.bel.trans (hb.mono h.bel.size)⟩
 ·obtain ⟨g,e,h1,h2,h3⟩:=h.rN i hi
  exact ⟨g,e,h1,h2.below hb h2.lt,h3⟩
 ·obtain ⟨g,e,h1,h2,h3⟩:=h.rO i hi
  exact ⟨g,e,h1,h2.below hb h2.lt,h3⟩
theorem getD_snoc {α:Type} {l:List α} {x d:α} {i:Nat} (h:i < l.length):(l ++ [x]).getD i d = l.getD i d:=by
 rw [List.getD_eq_getElem?_getD,List.getD_eq_getElem?_getD,List.getElem?_append_left h]
theorem getD_last {α:Type} {l:List α} {x d:α} {i:Nat} (h:i = l.length):(l ++ [x]).getD i d = x:=by
 subst h
 rw [List.getD_eq_getElem?_getD,List.getElem?_append_right (Nat.le_refl _)]; simp
theorem own_len {w:World} {base n:Nat} {e:TypeId} {v:Value} {xs:List Value} (h:w.ownsRow base e 1 v n xs):xs.length = n:=by have:=h.1; omega
theorem SqB.putN (h:SqB W0 wr gr fr vN vO vE vT nv ov N O E T) {v' u:Value} {r:List Int} (hg:wr.grownBy w' vN.ownBlock) (ho:w'.ownsRow W0.heap.size 55 1 v' (N.length + 1) (nv ++ [u])) (hr:RowB W0.heap.size wr 3 u (r.map (Value.int .i64))) :
    SqB W0 (w'.setCell ⟨gr,1,none⟩ v') gr fr v' vO vE vT (nv ++ [u]) ov (N ++ [r]) O E T:=by
 have kb:=blk_keep h.box hg (own_blk h.oN h.box (by decide))
 have kO:=h.oO.kept hg (apart_types h.oO h.oN (by decide)).or_none
 have kE:=h.oE.kept hg (apart_types h.oE h.oN (by decide)).or_none
 have kT:=h.oT.kept hg (apart_types h.oT h.oN (by decide)).or_none
 have hl:=own_len h.oN
 refine ⟨kb.set_ 1 v',?_,own_setCell kO (own_blk kO kb (by decide)) _,own_setCell kE (own_blk kE kb (by decide)) _,own_setCell kT (own_blk kT kb (by decide)) _,fun i hi => ?_,fun i hi => ?_,h.ap,h.lo,(h.bel.grown hg h.bel.size (fun k hk => (own_lt h.oN k hk).1)).setCell (p:=⟨gr,1,none⟩) h.lo _⟩
 ·rw [List.length_append,List.length_singleton]
  exact own_setCell ho (own_blk ho kb (by decide)) _
 ·rw [List.length_append,List.length_singleton] at hi
  by_cases e:i < N.length
  ·rw [getD_snoc e,getD_snoc (by omega)]
   exact ((h.rN i e).kept hg ((h.rN i e).ne_own h.oN (by decide))).set kb (by decide) 1 v'
  ·rw [getD_last (show i = N.length by omega),getD_last (show i = nv.length by omega)]
   exact (hr.kept hg (hr.ne_own h.oN (by decide))).set kb (by decide) 1 v'
 ·exact ((h.rO i hi).kept hg ((h.rO i hi).ne_own h.oN (by decide))).set kb (by decide) 1 v'
theorem SqB.putO (h:SqB W0 wr gr fr vN vO vE vT nv ov N O E T) {v' u:Value} {r:List ByteArray} (hg:wr.grownBy w' vO.ownBlock) (ho:w'.ownsRow W0.heap.size 25 1 v' (O.length + 1) (ov ++ [u])) (hr:RowB W0.heap.size wr 9 u (r.map Value.string)) (hap:∀ g,vT.ownBlock = some g→u.ownBlock≠some g) :
    SqB W0 (w'.setCell ⟨gr,2,none⟩ v') gr fr vN v' vE vT nv (ov ++ [u]) N (O ++ [r]) E T:=by
 have kb:=blk_keep h.box hg (own_blk h.oO h.box (by decide))
 have kN:=h.oN.kept hg (apart_types h.oN h.oO (by decide)).or_none
 have kE:=h.oE.kept hg (apart_types h.oE h.oO (by decide)).or_none
 have kT:=h.oT.kept hg (apart_types h.oT h.oO (by decide)).or_none
 have hl:=own_len h.oO
 refine ⟨kb.set_ 2 v',own_setCell kN (own_blk kN kb (by decide)) _,?_,own_setCell kE (own_blk kE kb (by decide)) _,own_setCell kT (own_blk kT kb (by decide)) _,fun i hi => ?_,fun i hi => ?_,fun i hi => ?_,h.lo,(h.bel.grown hg h.bel.size (fun k hk => (own_lt h.oO k hk).1)).setCell (p:=⟨gr,2,none⟩) h.lo _⟩
 ·rw [List.length_append,List.length_singleton]
  exact own_setCell ho (own_blk ho kb (by decide)) _
 ·exact ((h.rN i hi).kept hg ((h.rN i hi).ne_own h.oO (by decide))).set kb (by decide) 2 v'
 ·rw [List.length_append,List.length_singleton] at hi
  by_cases e:i < O.length
  ·rw [getD_snoc e,getD_snoc (by omega)]
   exact ((h.rO i e).kept hg ((h.rO i e).ne_own h.oO (by decide))).set kb (by decide) 2 v'
  ·rw [getD_last (show i = O.length by omega),getD_last (show i = ov.length by omega)]
   exact (hr.kept hg (hr.ne_own h.oO (by decide))).set kb (by decide) 2 v'
 ·rw [List.length_append,List.length_singleton] at hi
  by_cases e:i < O.length
  ·rw [getD_snoc (by omega)]; exact h.ap i e
  ·rw [getD_last (show i = ov.length by omega)]; exact hap
theorem SqB.putE (h:SqB W0 wr gr fr vN vO vE vT nv ov N O E T) {v':Value} {x:Bool} (hg:wr.grownBy w' vE.ownBlock) (ho:w'.ownsRow W0.heap.size 4 1 v' (E.length + 1) (E.map Value.bool ++ [.bool x])) :
    SqB W0 (w'.setCell ⟨gr,3,none⟩ v') gr fr vN vO v' vT nv ov N O (E ++ [x]) T:=by
 have kb:=blk_keep h.box hg (own_blk h.oE h.box (by decide))
 have kN:=h.oN.kept hg (apart_types h.oN h.oE (by decide)).or_none
 have kO:=h.oO.kept hg (apart_types h.oO h.oE (by decide)).or_none
 have kT:=h.oT.kept hg (apart_types h.oT h.oE (by decide)).or_none
 refine ⟨kb.set_ 3 v',own_setCell kN (own_blk kN kb (by decide)) _,own_setCell kO (own_blk kO kb (by decide)) _,?_,own_setCell kT (own_blk kT kb (by decide)) _,fun i hi => ?_,fun i hi => ?_,h.ap,h.lo,(h.bel.grown hg h.bel.size (fun k hk => (own_lt h.oE k hk).1)).setCell (p:=⟨gr,3,none⟩) h.lo _⟩
 ·rw [List.length_append,List.length_singleton,List.map_append]
  exact own_setCell ho (own_blk ho kb (by decide)) _
 ·exact ((h.rN i hi).kept hg ((h.rN i hi).ne_own h.oE (by decide))).set kb (by decide) 3 v'
 ·exact ((h.rO i hi).kept hg ((h.rO i hi).ne_own h.oE (by decide))).set kb (by decide) 3 v'
theorem SqB.putT (h:SqB W0 wr gr fr vN vO vE vT nv ov N O E T) {v':Value} {x:ByteArray} (hg:wr.grownBy w' vT.ownBlock) (ho:w'.ownsRow W0.heap.size 9 1 v' (T.length + 1) (T.map Value.string ++ [.string x])) (hl:v'.ownBlock = vT.ownBlock∨v'.ownBlock = some wr.heap.size) :
    SqB W0 (w'.setCell ⟨gr,4,none⟩ v') gr fr vN vO vE v' nv ov N O E (T ++ [x]):=by
 have kb:=blk_keep h.box hg (own_blk h.oT h.box (by decide))
 have kN:=h.oN.kept hg (apart_types h.oN h.oT (by decide)).or_none
 have kO:=h.oO.kept hg (apart_types h.oO h.oT (by decide)).or_none
 have kE:=h.oE.kept hg (apart_types h.oE h.oT (by decide)).or_none
 refine ⟨kb.set_ 4 v',own_setCell kN (own_blk kN kb (by decide)) _,own_setCell kO (own_blk kO kb (by decide)) _,own_setCell kE (own_blk kE kb (by decide)) _,?_,fun i hi => ?_,fun i hi => ?_,fun i hi g e => ?_,h.lo,(h.bel.grown hg h.bel.size (fun k hk => (own_lt h.oT k hk).1)).setCell (p:=⟨gr,4,none⟩) h.lo _⟩
 ·rw [List.length_append,List.length_singleton,List.map_append]
  exact own_setCell ho (own_blk ho kb (by decide)) _
 ·exact ((h.rN i hi).kept hg ((h.rN i hi).ne_own h.oT (by decide))).set kb (by decide) 4 v'
 ·exact ((h.rO i hi).kept hg (fun g e e2 => h.ap i hi g e2 e)).set kb (by decide) 4 v'
 ·rcases hl with e2 | e2
  ·exact h.ap i hi g (e2 ▸ e)
  ·obtain ⟨g',e3,_,h4,_⟩:=h.rO i hi
   rw [e2] at e
   rw [e3]
   intro e5
   have h6:=h4.lt
   have e7:g' = g:=Option.some.inj e5
   have e8:wr.heap.size = g:=Option.some.inj e
   omega
theorem SqB.seqNew (h:SqB W0 wr gr fr vN vO vE vT nv ov N O E T) {m:Nat} (hm:m≤1024) (hq:N.length≤m∧O.length = N.length∧E.length = N.length∧T.length = N.length∧fr.size≤100000000 ∧
      ∀ s,s < N.length→(T.getD s ByteArray.empty).size≤4096∧(N.getD s []).length = 256∧(O.getD s []).length = 256 ∧
      ∀ b,b < 256→-1≤(N.getD s []).getD b 0∧(N.getD s []).getD b 0 < N.length∧((O.getD s []).getD b ByteArray.empty).size≤4096) :
    SeqNew W0.heap.size wr ⟨fr,N,O,E,T⟩ (.agg #[.string fr,vN,vO,vE,vT]):=fun W hz hk => by
 have hsl:∀ {T:TypeId} {v:Value} {xs:List Value},RowB W0.heap.size wr T v xs→SlR (fun g => g < W0.heap.size) wr 1 v xs.length xs:=fun ⟨g,e,h1,h2,h3⟩ =>
  ⟨g,256,by rw [h3]; exact e,by omega,by unfold maxLen; decide,h2.lt,by omega,reads_blk h2 rfl⟩
 have hQ:MkQ wr W0.heap.size vN vO vE vT nv ov ⟨[],N,O,E,T⟩ (fun g => g < W0.heap.size) :=
  ⟨h.oN,h.oO,h.oE,h.oT,fun i hi => by
   have:=hsl (h.rN i hi)
   rwa [List.length_map] at this,fun i hi => by
   have:=hsl (h.rO i hi)
   rwa [List.length_map] at this⟩
 exact ((hQ.stays (fun g hg => hg) hz hk).seq hm hq)
end
end Go.Proofs.YtcondkihpmmnnaaGreatDoor
namespace Go.Proofs.YtcondkihpmmnnaaGreatDoor
def usN (f:Nat→Bool) (n:Nat):List Nat:=(List.range n).filter f
def plP (f:Nat→Bool) (n s:Nat):Int:=if s < n∧f s = true then ((usN f s).length:Int) else -1
theorem usN_next (f:Nat→Bool) (n:Nat):usN f (n + 1) = usN f n ++ if f n = true then [n] else []:=by
 unfold usN
 rw [List.range_succ,List.filter_append]
 congr 1
 split
 ·rename_i h; rw [List.filter_cons_of_pos h]; rfl
 ·rename_i h; rw [List.filter_cons_of_neg h]; rfl
theorem usN_le (f:Nat→Bool) (n:Nat):(usN f n).length≤n:=by
 unfold usN; exact Nat.le_trans (List.length_filter_le _ _) (by simp)
theorem usN_at {f:Nat→Bool}:∀ {n s:Nat},s < n→f s = true→(usN f n)[(usN f s).length]? = some s
 | 0,_,h,_ => absurd h (Nat.not_lt_zero _)
 | n + 1,s,h,hf => by
  rw [usN_next]
  by_cases e:s = n
  ·subst e
   rw [if_pos hf,List.getElem?_append_right (Nat.le_refl _)]; simp
  ·have:=usN_at (n:=n) (s:=s) (by omega) hf
   rw [List.getElem?_append_left]
   ·exact this
   ·rcases Nat.lt_or_ge (usN f s).length (usN f n).length with h | h
    ·exact h
    ·rw [List.getElem?_eq_none h] at this; cases this
theorem usN_inv {f:Nat→Bool} {n i s:Nat} (h:(usN f n)[i]? = some s):s < n∧f s = true∧i = (usN f s).length:=by
 have hm:=List.mem_of_getElem? h
 unfold usN at hm
 rw [List.mem_filter,List.mem_range] at hm
 refine ⟨hm.1,hm.2,?_⟩
 have h2:=usN_at hm.1 hm.2
 have hd:(usN f n).Nodup:=List.Nodup.sublist List.filter_sublist List.nodup_range
 have hi:i < (usN f n).length:=by
  rcases Nat.lt_or_ge i (usN f n).length with e | e
  ·exact e
  ·rw [List.getElem?_eq_none e] at h; cases h
 have hj:(usN f s).length < (usN f n).length:=by
  rcases Nat.lt_or_ge (usN f s).length (usN f n).length with e | e
  ·exact e
  ·rw [List.getElem?_eq_none e] at h2; cases h2
 rw [List.getElem?_eq_getElem hi] at h
 rw [List.getElem?_eq_getElem hj] at h2
 exact (List.getElem_inj hd).1 ((Option.some.inj h).trans (Option.some.inj h2).symm)
def tailT (q:SeqM) (k:Frt) (s:Nat):ByteArray:=if q.en s = true then (q.tl s).extract (k.l s).size (q.tl s).size else ByteArray.empty
def rowN (q:SeqM) (pl:Nat→Int) (s:Nat):List Int:=(List.range 256).map (nextT q pl s)
def rowO (q:SeqM) (k:Frt) (pl:Nat→Int) (s:Nat):List ByteArray:=(List.range 256).map (outsT q k pl s)
def pushM (q:SeqM) (k:Frt) (pl:Nat→Int) (us:List Nat):SeqM :=
 ⟨q.front ++ k.l 0,us.map (rowN q pl),us.map (rowO q k pl),us.map q.en,us.map (tailT q k)⟩
theorem getD_mapRange {α:Type} (g:Nat→α) (d:α) {n b:Nat} (hb:b < n):((List.range n).map g).getD b d = g b:=by
 rw [List.getD_eq_getElem?_getD,List.getElem?_map,List.getElem?_range hb]; rfl
theorem getD_mapAt {α:Type} (g:Nat→α) (d:α) {us:List Nat} {i s:Nat} (h:us[i]? = some s):(us.map g).getD i d = g s:=by
 rw [List.getD_eq_getElem?_getD,List.getElem?_map,h]; rfl
section
variable {q:SeqM} {k:Frt} {pl:Nat→Int} {us:List Nat} {i s b:Nat}
theorem pushM_nx (h:us[i]? = some s) (hb:b < 256):(pushM q k pl us).nx i b = nextT q pl s b:=by
 unfold SeqM.nx pushM
 simp only
 rw [getD_mapAt (rowN q pl) [] h]
 exact getD_mapRange _ _ hb
theorem pushM_os (h:us[i]? = some s) (hb:b < 256):(pushM q k pl us).os i b = outsT q k pl s b:=by
 unfold SeqM.os pushM
 simp only
 rw [getD_mapAt (rowO q k pl) [] h]
 exact getD_mapRange _ _ hb
theorem pushM_en (h:us[i]? = some s):(pushM q k pl us).en i = q.en s:=by
 unfold SeqM.en pushM
 simp only
 exact getD_mapAt q.en false h
theorem pushM_tl (h:us[i]? = some s):(pushM q k pl us).tl i = tailT q k s:=by
 unfold SeqM.tl pushM
 simp only
 exact getD_mapAt (tailT q k) _ h
end
theorem front_pre {q:SeqM} {k:Frt} (hf:Fronts q k) {s b:Nat} (hs:s < q.next.length) (hk:k.some s = true) (hb:b < 256) (h0:0≤q.nx s b) (hz:(q.nx s b).toNat < q.next.length) (hkz:k.some (q.nx s b).toNat = true) :
    bl (k.l s) <+: bl (q.os s b) ++ bl (k.l (q.nx s b).toNat):=by
 have hbeg:=hf.beg s hs hk
 obtain ⟨o,ho⟩:=(hf.live _ hz).1 hkz
 rcases Nat.le_total (bl (k.l s)).length (bl (q.os s b)).length with hl | hl
 ·exact (List.prefix_of_prefix_length_le (hbeg _ (outs_step hb h0 ho)) (List.prefix_append _ _) hl).trans (List.prefix_append _ _)
 ·have hp:bl (q.os s b) <+: bl (k.l s):=List.prefix_of_prefix_length_le (List.prefix_append _ o) (hbeg _ (outs_step hb h0 ho)) hl
  obtain ⟨m',hm⟩:=hp
  rw [← hm,List.prefix_append_right_inj]
  refine hf.most _ hz hkz m' fun o' ho' => ?_
  have:=hbeg _ (outs_step hb h0 ho')
  rw [← hm] at this
  exact (List.prefix_append_right_inj _).1 this
theorem front_tail {q:SeqM} {k:Frt} (hf:Fronts q k) {s:Nat} (hs:s < q.next.length) (hk:k.some s = true) (he:q.en s = true):bl (k.l s) <+: bl (q.tl s):=hf.beg s hs hk _ (outs_end he)
theorem prefix_drop {a x:List UInt8} (h:a <+: x):x = a ++ x.drop a.length:=by
 obtain ⟨y,rfl⟩:=h
 simp
structure Kept (q:SeqM) (k:Frt) (n:Nat) (seen:Nat→Bool):Prop where
 first:seen 0 = true
 some0:k.some 0 = true
 pos:0 < n
 closed:∀ s,s < n→seen s = true→∀ b,b < 256→0≤q.nx s b→seen (q.nx s b).toNat = true
def keepF (k:Frt) (seen:Nat→Bool) (s:Nat):Bool:=seen s && k.some s
section
variable {q:SeqM} {k:Frt} {n:Nat} {seen:Nat→Bool}
theorem kept_iff (hck:ckB q = true) (hn:q.next.length = n) (hK:Kept q k n seen) {s b:Nat} (hs:s < n) (hks:seen s = true) (hb:b < 256) :
    kept q (plP (keepF k seen) n) s b↔0≤q.nx s b∧k.some (q.nx s b).toNat = true:=by
 have hz:=(ckB_nx hck (by rw [hn]; exact hs) hb).2.1
 unfold kept plP
 constructor
 ·rintro ⟨h1,h2⟩
  refine ⟨h1,?_⟩
  split at h2
  ·rename_i h3
   unfold keepF at h3
   simp only [Bool.and_eq_true] at h3
   exact h3.2.2
  ·omega
 ·rintro ⟨h1,h2⟩
  refine ⟨h1,?_⟩
  rw [if_pos]
  ·omega
  ·unfold keepF
   rw [hK.closed s hs hks b hb h1,h2]
   exact ⟨by omega,rfl⟩
theorem pushes_of (hck:ckB q = true) (hn:q.next.length = n) (hf:Fronts q k) (hK:Kept q k n seen) :
    Pushes q k (pushM q k (plP (keepF k seen) n) (usN (keepF k seen) n)) (usN (keepF k seen) n):=by
 have hz:∀ s b,s < n→b < 256→q.nx s b < (n:Int):=fun s b hs hb => by have:=(ckB_nx hck (s:=s) (by rw [hn]; exact hs) hb).2.1; rwa [hn] at this
 refine ⟨by unfold pushM; simp,?_,rfl,fun i s hi => ?_⟩
 ·have:=usN_at (f:=keepF k seen) (n:=n) (s:=0) hK.pos (by unfold keepF; rw [hK.first,hK.some0]; rfl)
  exact this
 ·obtain ⟨hs,hfs,_⟩:=usN_inv hi
  have hfs':=hfs
  unfold keepF at hfs'
  simp only [Bool.and_eq_true] at hfs'
  obtain ⟨hse,hso⟩:=hfs'
  have hs':s < q.next.length:=by rw [hn]; exact hs
  refine ⟨hs',hso,pushM_en hi,fun he => ?_,fun b hb => ?_⟩
  ·rw [pushM_tl hi]
   unfold tailT
   rw [if_pos he,bl_cut]
   exact prefix_drop (front_tail hf hs' hso he)
  ·rw [pushM_nx hi hb,pushM_os hi hb]
   by_cases hkp:kept q (plP (keepF k seen) n) s b
   ·have hkp2:=(kept_iff hck hn hK hs hse hb).1 hkp
    have hzn:=hz s b hs hb
    right
    refine ⟨hkp.1,?_⟩
    have hkz:keepF k seen (q.nx s b).toNat = true:=by unfold keepF; rw [hK.closed s hs hse b hb hkp.1,hkp2.2]; rfl
    have hzl:(q.nx s b).toNat < n:=by omega
    refine ⟨(usN (keepF k seen) (q.nx s b).toNat).length,usN_at hzl hkz,?_,?_⟩
    ·unfold nextT
     rw [if_pos hkp]
     unfold plP
     rw [if_pos ⟨hzl,hkz⟩]
    ·unfold outsT
     rw [if_pos hkp,bl_cut,bl_app]
     exact prefix_drop (front_pre hf hs' hso hb hkp.1 (by rw [hn]; exact hzl) hkp2.2)
   ·left
    refine ⟨?_,?_⟩
    ·by_cases h0:q.nx s b < 0
     ·exact .inl h0
     ·right
      rcases e:k.some (q.nx s b).toNat with _ | _
      ·rfl
      ·exact absurd ((kept_iff hck hn hK hs hse hb).2 ⟨by omega,e⟩) hkp
    ·unfold nextT; rw [if_neg hkp]; omega
theorem push_pos (hK:Kept q k n seen):0 < (usN (keepF k seen) n).length:=by
 have h0:=usN_at (f:=keepF k seen) (n:=n) (s:=0) hK.pos (by unfold keepF; rw [hK.first,hK.some0]; rfl)
 rcases Nat.eq_zero_or_pos (usN (keepF k seen) n).length with e | e
 ·rw [List.getElem?_eq_none (by omega)] at h0; cases h0
 ·exact e
theorem push_len:(pushM q k (plP (keepF k seen) n) (usN (keepF k seen) n)).next.length = (usN (keepF k seen) n).length:=by unfold pushM; simp
theorem push_st (hck:ckB q = true) (hn:q.next.length = n)
    (hsz:∀ s,s < n→keepF k seen s = true→∀ b,b < 256→kept q (plP (keepF k seen) n) s b→(q.os s b).size + (k.l (q.nx s b).toNat).size≤4096 + (k.l s).size) (i:Nat) (hi:i < (usN (keepF k seen) n).length) :
    stB (pushM q k (plP (keepF k seen) n) (usN (keepF k seen) n)) (usN (keepF k seen) n).length i = true:=by
 obtain ⟨p1,p2,p3,p4,p5,p6⟩:=ck_parts hck
 have hul:=usN_le (keepF k seen) n
 obtain ⟨s,hs⟩:∃ s,(usN (keepF k seen) n)[i]? = some s:=⟨_,List.getElem?_eq_getElem hi⟩
 obtain ⟨hsn,hfs,_⟩:=usN_inv hs
 have c1:=pushM_tl (q:=q) (k:=k) (pl:=plP (keepF k seen) n) hs
 have c2:=pushM_en (q:=q) (k:=k) (pl:=plP (keepF k seen) n) hs
 have hbnd:=fun b hb => ckB_nx hck (s:=s) (b:=b) (by rw [hn]; exact hsn) hb
 have hext:∀ (x:ByteArray) (a:Nat),(x.extract a x.size).size≤x.size - a:=fun x a => by
  have:=congrArg List.length (bl_cut x a)
  rw [List.length_drop,bl_len,bl_len] at this
  omega
 unfold stB rowB entB
 simp only [Bool.and_eq_true,Bool.or_eq_true,decide_eq_true_eq,List.all_eq_true]
 refine ⟨⟨?_,?_⟩,⟨?_,?_⟩,fun b hb => ?_⟩
 ·show ((pushM q k (plP (keepF k seen) n) (usN (keepF k seen) n)).tl i).size≤4096
  rw [c1]
  unfold tailT
  split
  ·have:=hext (q.tl s) (k.l s).size
   have:=(hbnd 0 (by decide)).2.2.2.2.1
   omega
  ·exact Nat.zero_le _
 ·by_cases he:q.en s = true
  ·left
   show (pushM q k (plP (keepF k seen) n) (usN (keepF k seen) n)).en i = true
   rw [c2]; exact he
  ·right
   show ((pushM q k (plP (keepF k seen) n) (usN (keepF k seen) n)).tl i).size = 0
   rw [c1]
   unfold tailT
   rw [if_neg he]; rfl
 ·unfold pushM
  simp only
  rw [getD_mapAt _ [] hs]
  unfold rowN; simp
 ·unfold pushM
  simp only
  rw [getD_mapAt _ [] hs]
  unfold rowO; simp
 ·have hb:=List.mem_range.1 hb
  have e1:=pushM_nx (q:=q) (k:=k) (pl:=plP (keepF k seen) n) hs hb
  have e2:=pushM_os (q:=q) (k:=k) (pl:=plP (keepF k seen) n) hs hb
  have g1:(((pushM q k (plP (keepF k seen) n) (usN (keepF k seen) n)).next.getD i []).getD b 0) = nextT q (plP (keepF k seen) n) s b:=e1
  have g2:(((pushM q k (plP (keepF k seen) n) (usN (keepF k seen) n)).outs.getD i []).getD b ByteArray.empty) = outsT q k (plP (keepF k seen) n) s b:=e2
  rw [g1,g2]
  unfold nextT outsT
  by_cases hkp:kept q (plP (keepF k seen) n) s b
  ·rw [if_pos hkp,if_pos hkp]
   have h2:=hkp.2
   have hple:plP (keepF k seen) n (q.nx s b).toNat < ((usN (keepF k seen) n).length:Int):=by
    unfold plP at h2 ⊢
    split
    ·rename_i h3
     have:=usN_at h3.1 h3.2
     have:(usN (keepF k seen) (q.nx s b).toNat).length < (usN (keepF k seen) n).length:=by
      rcases Nat.lt_or_ge (usN (keepF k seen) (q.nx s b).toNat).length (usN (keepF k seen) n).length with e | e
      ·exact e
      ·rw [List.getElem?_eq_none e] at this; cases this
     omega
    ·rename_i h3; rw [if_neg h3] at h2; omega
   have h3:=hsz s hsn hfs b hb hkp
   have h4:=hext (q.os s b ++ k.l (q.nx s b).toNat) (k.l s).size
   rw [ByteArray.size_append] at h4
   have hsa:=ByteArray.size_append (a:=q.os s b) (b:=k.l (q.nx s b).toNat)
   rw [hsa] at *
   exact ⟨⟨⟨by omega,hple⟩,by omega⟩,.inl (by omega)⟩
  ·rw [if_neg hkp,if_neg hkp]
   exact ⟨⟨⟨by omega,by omega⟩,by decide⟩,.inr rfl⟩
theorem ck_push (hck:ckB q = true) (hn:q.next.length = n) (hK:Kept q k n seen) (hfr:(q.front ++ k.l 0).size≤4096)
    (hsz:∀ s,s < n→keepF k seen s = true→∀ b,b < 256→kept q (plP (keepF k seen) n) s b→(q.os s b).size + (k.l (q.nx s b).toNat).size≤4096 + (k.l s).size) :
    ckB (pushM q k (plP (keepF k seen) n) (usN (keepF k seen) n)) = true:=by
 have hst:=push_st hck hn hsz
 obtain ⟨p1,_⟩:=ck_parts hck
 have hul:=usN_le (keepF k seen) n
 have hpos:=push_pos hK
 unfold ckB
 simp only [Bool.and_eq_true,Bool.or_eq_true,decide_eq_true_eq,List.all_eq_true]
 refine ⟨⟨⟨⟨⟨⟨by rw [push_len]; omega,by unfold pushM; simp⟩,by unfold pushM; simp⟩,by unfold pushM; simp⟩,hfr⟩,.inl (by rw [push_len]; omega)⟩,fun i hi => ?_⟩
 have hi:=List.mem_range.1 hi
 rw [push_len] at hi ⊢
 exact hst i hi
theorem ck_push0 (hck:ckB q = true) (hn:q.next.length = n) (hK:Kept q k n seen)
    (hsz:∀ s,s < n→keepF k seen s = true→∀ b,b < 256→kept q (plP (keepF k seen) n) s b→(q.os s b).size + (k.l (q.nx s b).toNat).size≤4096 + (k.l s).size) :
    ckB { pushM q k (plP (keepF k seen) n) (usN (keepF k seen) n) with front:=ByteArray.empty } = true:=by
 have hst:=push_st hck hn hsz
 obtain ⟨p1,_⟩:=ck_parts hck
 have hul:=usN_le (keepF k seen) n
 have hpos:=push_pos hK
 unfold ckB
 simp only [Bool.and_eq_true,Bool.or_eq_true,decide_eq_true_eq,List.all_eq_true]
 refine ⟨⟨⟨⟨⟨⟨by rw [push_len]; omega,by unfold pushM; simp⟩,by unfold pushM; simp⟩,by unfold pushM; simp⟩,by decide⟩,.inr rfl⟩,fun i hi => ?_⟩
 have hi:=List.mem_range.1 hi
 rw [push_len] at hi ⊢
 exact hst i hi
end
def LongQ (q:SeqM) (k:Frt):Prop:=(∃ s b,s < q.next.length∧b < 256∧0≤q.nx s b∧k.some (q.nx s b).toNat = true∧4096 < (q.os s b).size + (k.l (q.nx s b).toNat).size)∨(k.some 0 = true∧4096 < q.front.size + (k.l 0).size)
end Go.Proofs.YtcondkihpmmnnaaGreatDoor
namespace Go.Proofs.YtcondkihpmmnnaaGreatDoor
open Go.RowKit Go.Sort
def PushPost (q:SeqM) (w:World) (e:Ending) (w':World):Prop :=
 Below w.heap.size w w'∧∃ (v:Value) (r:SeqM) (c:Int),e = .returned (.tuple #[v,.int .i64 c])∧SeqNew w.heap.size w' r v ∧
  ((ckB q = false∧c = 1∧r = seq0)∨(ckB q = true∧∃ k,Fronts q k∧((c = 0∧r = seq0∧(q.next.length = 0∨k.some 0 = false))∨(c = 2∧r = seq0∧LongQ q k)∨(c = 0∧ckB r = true∧∃ us,Pushes q k r us))))
set_option maxRecDepth 100000 in
theorem push_ret {R:Ending→World→Prop} {tmps:Array Value} {gq:Nat} {c0 c1 c2 c3 c4 k:Value} {W:World} (h4:tmps[2]? = some (.pointer (some ⟨gq,0,none⟩))) (h5:tmps[3]? = some k)
    (hq:Blk W gq 27 #[c0,c1,c2,c3,c4]) (h:R (.returned (.tuple #[.agg #[c0,c1,c2,c3,c4],k])) W):bodyPost Tryz.prog Tryz.f33 R Exit.ret ⟨tmps,[]⟩ W:=by
 have q0:=hq.cell 0
 have q1:=hq.cell 1
 have q2:=hq.cell 2
 have q3:=hq.cell 3
 have q4:=hq.cell 4
 exact bodyPost_ret (v:=.tuple #[.agg #[c0,c1,c2,c3,c4],k]) (by simp [results,Tryz.results33,go_sem,q0,q1,q2,q3,q4,h4,h5]) rfl h
structure PsA (w wr:World) (cs:Array Value) (n gL gM gP gS:Nat) (k:Frt) (pl:Nat→Int) (seen:Nat→Bool):Prop where
 box:Blk wr w.heap.size 27 cs
 res:Blk wr (w.heap.size + 1) 27 #[.string ⟨#[]⟩,.slice none 0 0,.slice none 0 0,.slice none 0 0,.slice none 0 0]
 l:Blk wr gL 9 (kL k n).toArray
 m:Blk wr gM 4 (bV k.some n)
 p:Blk wr gP 3 (intsV pl n)
 s:Blk wr gS 4 (bV seen n)
 bL:w.heap.size + 2≤gL
 bM:w.heap.size + 2≤gM
 bP:w.heap.size + 2≤gP
 bS:w.heap.size + 2≤gS
 bel:Below w.heap.size w wr
section
variable {w wr w':World} {cs:Array Value} {n gL gM gP gS:Nat} {k:Frt} {pl:Nat→Int} {seen:Nat→Bool}
theorem PsA.call (h:PsA w wr cs n gL gM gP gS k pl seen) (hb:Below wr.heap.size wr w'):PsA w w' cs n gL gM gP gS k pl seen :=
 ⟨h.box.below hb h.box.lt,h.res.below hb h.res.lt,h.l.below hb h.l.lt,h.m.below hb h.m.lt,h.p.below hb h.p.lt,h.s.below hb h.s.lt,h.bL,h.bM,h.bP,h.bS,h.bel.trans (hb.mono h.bel.size)⟩
theorem PsA.set (h:PsA w wr cs n gL gM gP gS k pl seen) (j:Nat) (hj:j < n) (i:Int):PsA w (wr.setCell ⟨gP,j,none⟩ (.int .i64 i)) cs n gL gM gP gS k (fun t => if t = j then i else pl t) seen:=by
 have hb:=h.bP
 refine ⟨h.box.far (p:=⟨gP,j,none⟩) (by show w.heap.size≠gP; omega) _,h.res.far (p:=⟨gP,j,none⟩) (by show w.heap.size + 1≠gP; omega) _,h.l.far (p:=⟨gP,j,none⟩) (fun e => Blk.ne_ h.l h.p (by decide) e) _,
  h.m.far (p:=⟨gP,j,none⟩) (fun e => Blk.ne_ h.m h.p (by decide) e) _,?_,h.s.far (p:=⟨gP,j,none⟩) (fun e => Blk.ne_ h.s h.p (by decide) e) _,h.bL,h.bM,h.bP,h.bS,h.bel.setCell (p:=⟨gP,j,none⟩) (by show w.heap.size≤gP; omega) _⟩
 have:=h.p.set_ j (.int .i64 i)
 rwa [intsV_set _ _ _ _ hj] at this
theorem PsA.congr (h:PsA w wr cs n gL gM gP gS k pl seen) {pl':Nat→Int} (e:∀ j,j < n→pl j = pl' j):PsA w wr cs n gL gM gP gS k pl' seen:=by
 have:intsV pl n = intsV pl' n:=by
  unfold intsV
  rw [rowV_congr (fun j hj => by rw [e j hj])]
 exact { h with p:=this ▸ h.p }
end
def plJ (f:Nat→Bool) (n j s:Nat):Int:=if s < j then plP f n s else 0
theorem plJ_put {f:Nat→Bool} {n j:Nat} (hj:j < n):∀ s,s < n→(if s = j then plP f n j else plJ f n j s) = plJ f n (j + 1) s:=by
 intro s _
 unfold plJ
 by_cases e:s = j
 ·subst e; simp
 ·rw [if_neg e]
  by_cases h:s < j
  ·rw [if_pos h,if_pos (by omega)]
  ·rw [if_neg h,if_neg (by omega)]
theorem plJ_put2 {f:Nat→Bool} {n j:Nat} {i0:Int} (hj:j < n):∀ s,s < n→(if s = j then plP f n j else if s = j then i0 else plJ f n j s) = plJ f n (j + 1) s:=by
 intro s hs
 rw [← plJ_put hj s hs]
 by_cases e:s = j
 ·rw [if_pos e,if_pos e]
 ·rw [if_neg e,if_neg e,if_neg e]
theorem plP_yes {f:Nat→Bool} {n j:Nat} (hj:j < n) (h:f j = true):plP f n j = ((usN f j).length:Int):=by unfold plP; rw [if_pos ⟨hj,h⟩]
theorem plP_no {f:Nat→Bool} {n j:Nat} (h:f j = false):plP f n j = -1:=by unfold plP; rw [if_neg (by rw [h]; simp)]
theorem plP_bounds (f:Nat→Bool) (n z:Nat) (hn:n≤1024):-1≤plP f n z∧plP f n z≤2000:=by
 unfold plP
 split
 ·have:=usN_le f z; omega
 ·omega
theorem usN_yes {f:Nat→Bool} {j:Nat} (h:f j = true):usN f (j + 1) = usN f j ++ [j]:=by rw [usN_next,if_pos h]
theorem usN_no {f:Nat→Bool} {j:Nat} (h:f j = false):usN f (j + 1) = usN f j:=by rw [usN_next,if_neg (by rw [h]; decide),List.append_nil]
theorem intsV_row (f:Nat→Int):intsV f 256 = (((List.range 256).map f).map (Value.int .i64)).toArray:=by
 unfold intsV rowV; rw [List.map_map]; rfl
theorem strsV_row (f:Nat→ByteArray):strsV f 256 = (((List.range 256).map f).map Value.string).toArray:=by
 unfold strsV rowV; rw [List.map_map]; rfl
theorem rowB_ints {P0 g:Nat} {w:World} {f:Nat→Int} (h:Blk w g 3 (intsV f 256)) (hg:P0≤g):RowB P0 w 3 (.slice (some ⟨g,0,none⟩) 256 256) (((List.range 256).map f).map (Value.int .i64)) :=
 ⟨g,rfl,hg,by rw [← intsV_row]; exact h,by simp⟩
theorem rowB_strs {P0 g:Nat} {w:World} {f:Nat→ByteArray} (h:Blk w g 9 (strsV f 256)) (hg:P0≤g):RowB P0 w 9 (.slice (some ⟨g,0,none⟩) 256 256) (((List.range 256).map f).map Value.string) :=
 ⟨g,rfl,hg,by rw [← strsV_row]; exact h,by simp⟩
theorem RowB.call {P0:Nat} {w w':World} {T:TypeId} {v:Value} {xs:List Value} (h:RowB P0 w T v xs) (hb:Below w.heap.size w w'):RowB P0 w' T v xs:=by
 obtain ⟨g,e,h1,h2,h3⟩:=h
 exact ⟨g,e,h1,h2.below hb h2.lt,h3⟩
theorem getD_maps {α:Type} (f:Nat→α) (d:α) (us:List Nat) (i:Nat) (hi:i < us.length):(us.map f).getD i d = f (us.getD i 0):=by
 rw [List.getD_eq_getElem?_getD,List.getD_eq_getElem?_getD,List.getElem?_map,List.getElem?_eq_getElem hi]; rfl
theorem getD_some {us:List Nat} {i:Nat} (hi:i < us.length):us[i]? = some (us.getD i 0):=by
 rw [List.getD_eq_getElem?_getD,List.getElem?_eq_getElem hi]; rfl
def ShortTo (q:SeqM) (k:Frt) (f:Nat→Bool) (n s:Nat):Prop:=∀ t,t < s→f t = true→∀ b,b < 256→kept q (plP f n) t b→(q.os t b).size + (k.l (q.nx t b).toNat).size≤4096 + (k.l t).size
section
variable {q:SeqM} {k:Frt} {n:Nat} {seen:Nat→Bool}
theorem push_small (hck:ckB q = true) (hn:q.next.length = n) (hK:Kept q k n seen) (hfr:q.front.size + (k.l 0).size≤100000000) (hS:ShortTo q k (keepF k seen) n n) :
    (pushM q k (plP (keepF k seen) n) (usN (keepF k seen) n)).next.length≤1024∧(pushM q k (plP (keepF k seen) n) (usN (keepF k seen) n)).outs.length = (pushM q k (plP (keepF k seen) n) (usN (keepF k seen) n)).next.length ∧
    (pushM q k (plP (keepF k seen) n) (usN (keepF k seen) n)).ends.length = (pushM q k (plP (keepF k seen) n) (usN (keepF k seen) n)).next.length ∧
    (pushM q k (plP (keepF k seen) n) (usN (keepF k seen) n)).tail.length = (pushM q k (plP (keepF k seen) n) (usN (keepF k seen) n)).next.length∧(pushM q k (plP (keepF k seen) n) (usN (keepF k seen) n)).front.size≤100000000 ∧
    ∀ s,s < (pushM q k (plP (keepF k seen) n) (usN (keepF k seen) n)).next.length→((pushM q k (plP (keepF k seen) n) (usN (keepF k seen) n)).tail.getD s ByteArray.empty).size≤4096 ∧
     ((pushM q k (plP (keepF k seen) n) (usN (keepF k seen) n)).next.getD s []).length = 256∧((pushM q k (plP (keepF k seen) n) (usN (keepF k seen) n)).outs.getD s []).length = 256 ∧
     ∀ b,b < 256→-1≤((pushM q k (plP (keepF k seen) n) (usN (keepF k seen) n)).next.getD s []).getD b 0 ∧
      ((pushM q k (plP (keepF k seen) n) (usN (keepF k seen) n)).next.getD s []).getD b 0 < (pushM q k (plP (keepF k seen) n) (usN (keepF k seen) n)).next.length ∧
      (((pushM q k (plP (keepF k seen) n) (usN (keepF k seen) n)).outs.getD s []).getD b ByteArray.empty).size≤4096:=by
 have h0:=ck_push0 hck hn hK (fun s hs hf b hb hk => hS s hs hf b hb hk)
 obtain ⟨p1,p2,p3,p4,_,p6⟩:=ck_parts h0
 refine ⟨p1,p2,p3,p4,?_,fun s hs => ?_⟩
 ·show (q.front ++ k.l 0).size≤100000000
  rw [ByteArray.size_append]; exact hfr
 ·refine ⟨(ckB_nx h0 (s:=s) (b:=0) hs (by decide)).2.2.2.2.1,(p6 s hs).1,(p6 s hs).2,fun b hb => ?_⟩
  obtain ⟨a1,a2,a3,_⟩:=ckB_nx h0 (s:=s) (b:=b) hs hb
  exact ⟨a1,a2,a3⟩
end
section
variable {q:SeqM} {k:Frt} {n s:Nat} {seen:Nat→Bool}
theorem keepF_some (h:keepF k seen s = true):k.some s = true:=by unfold keepF at h; simp only [Bool.and_eq_true] at h; exact h.2
theorem keepF_seen (h:keepF k seen s = true):seen s = true:=by unfold keepF at h; simp only [Bool.and_eq_true] at h; exact h.1
theorem push_pre (hck:ckB q = true) (hn:q.next.length = n) (hf:Fronts q k) (hK:Kept q k n seen) (hs:s < n) (hfs:keepF k seen s = true) (b:Nat) (hb:b < 256) (hk:kept q (plP (keepF k seen) n) s b) :
    (k.l s).size≤(q.os s b).size + (k.l (q.nx s b).toNat).size:=by
 have hz:=(ckB_nx hck (s:=s) (by rw [hn]; exact hs) hb).2.1
 have h2:=(kept_iff hck hn hK hs (keepF_seen hfs) hb).1 hk
 have:=(front_pre hf (by rw [hn]; exact hs) (keepF_some hfs) hb h2.1 (by omega) h2.2).length_le
 rwa [List.length_append,bl_len,bl_len,bl_len] at this
theorem push_cut (hn:q.next.length = n) (hf:Fronts q k) (hs:s < n) (hfs:keepF k seen s = true) (he:q.en s = true):(k.l s).size≤(q.tl s).size:=by
 have:=(front_tail hf (by rw [hn]; exact hs) (keepF_some hfs) he).length_le
 rwa [bl_len,bl_len] at this
theorem push_long (hck:ckB q = true) (hn:q.next.length = n) (hK:Kept q k n seen) (hs:s < n) (hfs:keepF k seen s = true) (h:LongAt q k (plP (keepF k seen) n) s):LongQ q k:=by
 obtain ⟨b,hb,hk,hl⟩:=h
 have h2:=(kept_iff hck hn hK hs (keepF_seen hfs) hb).1 hk
 exact .inl ⟨s,b,by rw [hn]; exact hs,hb,h2.1,h2.2,hl⟩
end
theorem sqB_start {W0 W:World} {gr:Nat} {fr:ByteArray} (hb:Blk W gr 27 #[.string fr,nilV,nilV,nilV,nilV]) (hg:W0.heap.size≤gr) (hbel:Below W0.heap.size W0 W):SqB W0 W gr fr nilV nilV nilV nilV [] [] [] [] [] [] :=
 ⟨hb,World.ownsRow_nil _ _ _ _,World.ownsRow_nil _ _ _ _,World.ownsRow_nil _ _ _ _,World.ownsRow_nil _ _ _ _,fun _i h => absurd h (Nat.not_lt_zero _),fun _i h => absurd h (Nat.not_lt_zero _),fun _i h => absurd h (Nat.not_lt_zero _),hg,hbel⟩
def RowsTo (q:SeqM) (k:Frt) (f:Nat→Bool) (n s:Nat) (N:List (List Int)) (O:List (List ByteArray)) (E:List Bool) (T:List ByteArray):Prop :=
 N = (usN f s).map (rowN q (plP f n))∧O = (usN f s).map (rowO q k (plP f n))∧E = (usN f s).map q.en∧T = (usN f s).map (tailT q k)
section
variable {q:SeqM} {k:Frt} {f:Nat→Bool} {n s:Nat} {N:List (List Int)} {O:List (List ByteArray)} {E:List Bool} {T:List ByteArray}
theorem RowsTo.start:RowsTo q k f n 0 [] [] [] []:=⟨rfl,rfl,rfl,rfl⟩
theorem RowsTo.len (h:RowsTo q k f n s N O E T):N.length = (usN f s).length∧O.length = (usN f s).length∧E.length = (usN f s).length∧T.length = (usN f s).length:=by
 obtain ⟨rfl,rfl,rfl,rfl⟩:=h
 simp
theorem RowsTo.skip (h:RowsTo q k f n s N O E T) (hf:f s = false):RowsTo q k f n (s + 1) N O E T:=by
 unfold RowsTo at h ⊢
 rw [usN_no hf]; exact h
theorem RowsTo.put (h:RowsTo q k f n s N O E T) (hf:f s = true):RowsTo q k f n (s + 1) (N ++ [rowN q (plP f n) s]) (O ++ [rowO q k (plP f n) s]) (E ++ [q.en s]) (T ++ [tailT q k s]):=by
 unfold RowsTo at h ⊢
 obtain ⟨rfl,rfl,rfl,rfl⟩:=h
 rw [usN_yes hf]
 simp
theorem RowsTo.seq (h:RowsTo q k f n n N O E T):pushM q k (plP f n) (usN f n) = ⟨q.front ++ k.l 0,N,O,E,T⟩:=by
 obtain ⟨rfl,rfl,rfl,rfl⟩:=h
 rfl
theorem ShortTo.start:ShortTo q k f n 0:=fun _t h => absurd h (Nat.not_lt_zero _)
theorem ShortTo.skip (h:ShortTo q k f n s) (hf:f s = false):ShortTo q k f n (s + 1):=fun t ht hft => by
 by_cases e:t = s
 ·subst e; rw [hf] at hft; cases hft
 ·exact h t (by omega) hft
theorem ShortTo.put (h:ShortTo q k f n s) (hs:∀ b,b < 256→kept q (plP f n) s b→(q.os s b).size + (k.l (q.nx s b).toNat).size≤4096 + (k.l s).size):ShortTo q k f n (s + 1):=fun t ht hft => by
 by_cases e:t = s
 ·subst e; exact hs
 ·exact h t (by omega) hft
end
end Go.Proofs.YtcondkihpmmnnaaGreatDoor
namespace Go.Proofs.YtcondkihpmmnnaaGreatDoor
open Go.RowKit Go.Sort
set_option maxRecDepth 100000 in
set_option maxHeartbeats 8000000 in
theorem push_bad (q:SeqM) (v:Value) (B:Nat) (w:World) (HS:SeqAt w B q v) (hB:B≤w.heap.size) (hck:ckB q = false) :
    Calls Tryz.prog 33 #[v] w (PushPost q w):=by
 have HSat:=Lib.hid (fun W (hb:Below w.heap.size w W) => (HS.below (hb.mono hB)).more (Nat.le_trans hB hb.size))
 obtain ⟨A1,c1,A2,c2,A3,c3,A4,c4,rfl,hf,l1,l2,l3,l4,m1,m2,m3,m4,R1,hz,R2,hsz,R3,R4,htl⟩:=HS
 have HR3:=Lib.hid R3
 have HR4:=Lib.hid (And.intro R4 htl)
 clear R1 R2 R3 R4 hz hsz htl
 have hfin:=Lib.hid (fun (W:World) (hb:Below w.heap.size w W) => show PushPost q w (.returned (.tuple #[.agg #[.string ⟨#[]⟩,.slice none 0 0,.slice none 0 0,.slice none 0 0,.slice none 0 0],.int .i64 1])) W from
  ⟨hb,_,seq0,1,rfl,seqNew_nil _ _,.inl ⟨hck,rfl,rfl⟩⟩)
 have hcka:=Lib.hid (fun W hb => seqCheck_any q _ W.heap.size W (HSat.out W hb) (Nat.le_refl _))
 rw [hck] at hcka
 generalize q.front = fr at *
 generalize q.next.length = n1 at *
 generalize q.outs.length = n2 at *
 generalize q.ends.length = n3 at *
 generalize q.tail.length = n4 at *
 have B0:Below w.heap.size w ((w.alloc (.cells #[.string fr,.slice A1 n1 c1,.slice A2 n2 c2,.slice A3 n3 c3,.slice A4 n4 c4] 27)).alloc (.cells #[.string ⟨#[]⟩,.slice none 0 0,.slice none 0 0,.slice none 0 0,.slice none 0 0] 27)) :=
  ((Below.refl _ w).alloc (Nat.le_refl _) _).alloc (by simp) _
 have Ja:=(Blk.new w 27 #[.string fr,.slice A1 n1 c1,.slice A2 n2 c2,.slice A3 n3 c3,.slice A4 n4 c4]).alloc (.cells #[.string ⟨#[]⟩,.slice none 0 0,.slice none 0 0,.slice none 0 0,.slice none 0 0] 27)
 have Jr:=Blk.new (w.alloc (.cells #[.string fr,.slice A1 n1 c1,.slice A2 n2 c2,.slice A3 n3 c3,.slice A4 n4 c4] 27)) 27 #[.string ⟨#[]⟩,.slice none 0 0,.slice none 0 0,.slice none 0 0,.slice none 0 0]
 simp only [World.size_alloc] at Jr
 have j0:=Ja.cell 0
 have j1:=Ja.cell 1
 have j2:=Ja.cell 2
 have j3:=Ja.cell 3
 have j4:=Ja.cell 4
 clear hck
 go_enter Tryz.func33,Tryz.ntmps33
 go_wp2_with fail
 refine (hcka.out _ B0).mono ?_
 rintro e w1 ⟨rfl,hb1⟩
 have Jr1:=Jr.below hb1 Jr.lt
 have r0:=Jr1.cell 0
 have r1:=Jr1.cell 1
 have r2:=Jr1.cell 2
 have r3:=Jr1.cell 3
 have r4:=Jr1.cell 4
 have g0:=Jr1.frozen 0
 have g1:=Jr1.frozen 1
 have g2:=Jr1.frozen 2
 have g3:=Jr1.frozen 3
 have g4:=Jr1.frozen 4
 have hok:okE false = 1:=rfl
 go_wp2_with fail
 exact push_ret rfl rfl (blk_set5 Jr1 _ _ _ _ _) (hfin.out _ (below_set5 (B0.trans (hb1.mono (by simp; omega))) (by omega) _ _ _ _ _))
end Go.Proofs.YtcondkihpmmnnaaGreatDoor
