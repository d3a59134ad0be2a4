/- Lemmas, part 30 of 39. No condition. -/
import Derived.Test.YtcondkihpmmnnaaGreatDoorUniqueP28
import Derived.Test.YtcondkihpmmnnaaGreatDoorUniqueP27
import Derived.Test.YtcondkihpmmnnaaGreatDoorUniqueP22
import Derived.Test.YtcondkihpmmnnaaGreatDoorUniqueP08
import Derived.Test.YtcondkihpmmnnaaGreatDoorUniqueP25
import Derived.Test.YtcondkihpmmnnaaGreatDoorUniqueP23
import Derived.Test.YtcondkihpmmnnaaGreatDoorUniqueP26
import Derived.Lib.BufferWrite
import Derived.Laws.IdiomStrings
namespace Go.Proofs.YtcondkihpmmnnaaGreatDoor
open Go.RowKit Go.Sort
def qV (xs:List Nat):List Value:=xs.map fun z:Nat => Value.int .i64 (z:Int)
def bV (f:Nat→Bool) (n:Nat):Array Value:=(rowV (fun s => .bool (f s)) n).toArray
theorem bV_at (f:Nat→Bool) {n k:Nat} (h:k < n):(bV f n)[k]? = some (.bool (f k)):=by
 unfold bV; rw [List.getElem?_toArray,rowV_at _ h]
theorem bV_set (f:Nat→Bool) (n k:Nat) (v:Bool) (hk:k < n):(bV f n).setIfInBounds k (.bool v) = bV (fun j => if j = k then v else f j) n:=by
 unfold bV
 rw [List.setIfInBounds_toArray,rowV_set _ _ _ _ hk]
 congr 1
 unfold rowV
 apply List.map_congr_left
 intro j _
 show (if j = k then Value.bool v else .bool (f j)) = .bool (if j = k then v else f j)
 split <;> rfl
theorem bV_zero (n:Nat):(List.replicate n (Value.bool false)).toArray = bV (fun _ => false) n:=by
 unfold bV rowV
 congr 1
 apply List.ext_getElem?
 intro j
 rw [List.getElem?_replicate,List.getElem?_map]
 by_cases hj:j < n
 ·rw [List.getElem?_range hj]; simp [hj]
 ·rw [List.getElem?_eq_none (by simpa using hj)]; simp [hj]
def offW (w:World) (g n:Nat):Nat:=((List.range n).filter fun s => match w.cell? ⟨g,s,none⟩ with | some (.bool false) => true | _ => false).length
def offF (f:Nat→Bool) (n:Nat):Nat:=((List.range n).filter fun s => !f s).length
theorem offW_eq {w:World} {g n:Nat} {f:Nat→Bool} {T:TypeId} (h:Blk w g T (bV f n)):offW w g n = offF f n:=by
 unfold offW offF
 congr 1
 apply List.filter_congr
 intro s hs
 rw [h.cell,bV_at f (List.mem_range.1 hs)]
 cases f s <;> rfl
theorem filter_one {l:List Nat} (hd:l.Nodup) {p:Nat→Bool} {s:Nat} (hs:s∈l) (hp:p s = true):(l.filter fun j => if j = s then false else p j).length + 1 = (l.filter p).length:=by
 induction l with
 | nil => cases hs
 | cons x l ih =>
  rw [List.nodup_cons] at hd
  rcases List.mem_cons.1 hs with rfl | hs'
  ·rw [List.filter_cons_of_neg (by simp),List.filter_cons_of_pos (by simpa using hp),List.length_cons]
   congr 2
   apply List.filter_congr
   intro j hj
   have hjs:j≠s:=fun e => hd.1 (by rw [← e]; exact hj)
   rw [if_neg hjs]
  ·have hne:x≠s:=fun e => hd.1 (e ▸ hs')
   have:=ih hd.2 hs'
   by_cases hx:p x = true
   ·rw [List.filter_cons_of_pos (by simp [hne,hx]),List.filter_cons_of_pos hx,List.length_cons,List.length_cons]; omega
   ·rw [List.filter_cons_of_neg (by simp [hne,hx]),List.filter_cons_of_neg hx]; exact this
theorem offF_set {f:Nat→Bool} {n s:Nat} (hs:s < n) (h:f s = false):offF (fun j => if j = s then true else f j) n + 1 = offF f n:=by
 unfold offF
 have:=filter_one (l:=List.range n) List.nodup_range (p:=fun j => !f j) (List.mem_range.2 hs) (by simp [h])
 rw [← this]
 congr 2
 apply List.filter_congr
 intro j _
 by_cases e:j = s
 ·simp [e]
 ·simp [e]
theorem offF_le (f:Nat→Bool) (n:Nat):offF f n≤n:=by
 unfold offF
 exact Nat.le_trans (List.length_filter_le _ _) (by simp)
theorem qV_len (xs:List Nat):(qV xs).length = xs.length:=by unfold qV; simp
def lenOfV:Value→Nat
 | .slice _ n _ => n
 | _ => 0
def ReachedPost (q:SeqM) (n:Nat) (w:World) (e:Ending) (w':World):Prop :=
 ∃ g seen,e = .returned (.slice (some ⟨g,0,none⟩) n n)∧Blk w' g 4 (bV seen n)∧w.heap.size≤g∧Below w.heap.size w w'∧(0 < n→seen 0 = true) ∧
  ∀ s,s < n→seen s = true→∀ b,b < 256→0≤q.nx s b→seen (q.nx s b).toNat = true
structure ReaW (w wr:World) (gS n:Nat) (cs:Array Value) (seen:Nat→Bool) (xs:List Nat) (v:Value):Prop where
 box:Blk wr w.heap.size 27 cs
 seen_:Blk wr gS 4 (bV seen n)
 que:OwnQ wr w.heap.size 3 v (qV xs)
 gS:w.heap.size≤gS
 bel:Below w.heap.size w wr
 first:seen 0 = true
 lt:∀ z∈xs,z < n
section
variable {w wr w':World} {gS n:Nat} {cs:Array Value} {seen:Nat→Bool} {xs:List Nat} {v:Value}
theorem q_blk {base:Nat} {T:TypeId} {xs:List Value} {g:Nat} {cs:Array Value} {e:TypeId} (h:OwnQ wr base e v xs) (hb:Blk wr g T cs) (hne:e≠T):qBlock v≠some g:=by
 obtain ⟨g',off,cap,cur,rfl,_,hh,_⟩:=h
 intro e
 have e:g' = g:=Option.some.inj e
 subst e
 have:=hh.symm.trans hb
 simp only [Option.some.injEq,Obj.cells.injEq] at this
 exact hne this.2.1
theorem ReaW.call (h:ReaW w wr gS n cs seen xs v) (hb:Below wr.heap.size wr w'):ReaW w w' gS n cs seen xs v :=
 ⟨h.box.below hb h.box.lt,h.seen_.below hb h.seen_.lt,h.que.below hb,h.gS,h.bel.trans (hb.mono h.bel.size),h.first,h.lt⟩
theorem ReaW.mark (h:ReaW w wr gS n cs seen xs v) (z:Nat) (hz:z < n):ReaW w (wr.setCell ⟨gS,z,none⟩ (.bool true)) gS n cs (fun j => if j = z then true else seen j) xs v:=by
 refine ⟨h.box.far (p:=⟨gS,z,none⟩) (fun e => Blk.ne_ h.box h.seen_ (by decide) e) _,?_,h.que.setCell (q_blk h.que h.seen_ (by decide)) _,h.gS,h.bel.setCell (p:=⟨gS,z,none⟩) h.gS _,?_,h.lt⟩
 ·have:=h.seen_.set_ z (.bool true)
  rwa [bV_set _ _ _ _ hz] at this
 ·show (if 0 = z then true else seen 0) = true
  split
  ·rfl
  ·exact h.first
theorem ReaW.push (h:ReaW w wr gS n cs seen xs v) {v':Value} {z:Nat} (hz:z < n) (ho:OwnQ w' w.heap.size 3 v' (qV xs ++ [.int .i64 (z:Int)])) (hg:wr.grownBy w' (qBlock v)):ReaW w w' gS n cs seen (xs ++ [z]) v':=by
 have n1:=q_blk h.que h.box (by decide)
 have n2:=q_blk h.que h.seen_ (by decide)
 refine ⟨h.box.grown hg (fun e => n1 e.symm),h.seen_.grown hg (fun e => n2 e.symm),?_,h.gS,h.bel.grown hg h.bel.size (fun k hk => (h.que.lt k hk).1),h.first,fun y hy => ?_⟩
 ·have e:qV (xs ++ [z]) = qV xs ++ [.int .i64 (z:Int)]:=by unfold qV; simp
  rw [e]; exact ho
 ·rcases List.mem_append.1 hy with hy | hy
  ·exact h.lt y hy
  ·rw [List.mem_singleton] at hy; subst hy; exact hz
end
end Go.Proofs.YtcondkihpmmnnaaGreatDoor
namespace Go.Proofs.YtcondkihpmmnnaaGreatDoor
def cntF (k:Frt) (n:Nat):Nat:=((List.range n).filter k.some).length
theorem cntF_le (k:Frt) (n:Nat):cntF k n≤n:=by
 unfold cntF
 exact Nat.le_trans (List.length_filter_le _ _) (by simp)
theorem filter_more {l:List Nat} (hd:l.Nodup) {p:Nat→Bool} {s:Nat} (hs:s∈l) (hp:p s = false):(l.filter fun j => if j = s then true else p j).length = (l.filter p).length + 1:=by
 have h:=filter_one hd (p:=fun j => if j = s then true else p j) hs (by simp)
 rw [← h]
 congr 2
 apply List.filter_congr
 intro j _
 by_cases e:j = s
 ·simp [e,hp]
 ·simp [e]
theorem cntF_put {k:Frt} {n s:Nat} (f:ByteArray) (hs:s < n):cntF (k.put s f) n = if k.some s = true then cntF k n else cntF k n + 1:=by
 unfold cntF Frt.put
 split
 ·rename_i h
  congr 1
  apply List.filter_congr
  intro j _
  by_cases e:j = s
  ·simp [e,h]
  ·simp [e]
 ·rename_i h
  exact filter_more List.nodup_range (List.mem_range.2 hs) (by simpa using h)
def rankF (k:Frt) (n C:Nat):Nat:=((List.range n).map fun s => if k.some s = true then (k.l s).size + 1 else C).sum
theorem sum_one {l:List Nat} (hd:l.Nodup) {p p':Nat→Nat} {s:Nat} (hs:s∈l) (ho:∀ j,j≠s→p' j = p j) (hp:p' s + 1≤p s):(l.map p').sum + 1≤(l.map p).sum:=by
 induction l with
 | nil => cases hs
 | cons x l ih =>
  rw [List.nodup_cons] at hd
  simp only [List.map_cons,List.sum_cons]
  rcases List.mem_cons.1 hs with rfl | hs'
  ·have:l.map p' = l.map p:=List.map_congr_left fun j hj => ho j fun e => hd.1 (by rw [← e]; exact hj)
   rw [this]; omega
  ·have hne:x≠s:=fun e => hd.1 (by rw [e]; exact hs')
   have:=ih hd.2 hs'
   rw [ho x hne]; omega
theorem rankF_put {k:Frt} {n C s:Nat} {f:ByteArray} (hs:s < n) (h:if k.some s = true then f.size < (k.l s).size else f.size + 1 < C):rankF (k.put s f) n C + 1≤rankF k n C:=by
 unfold rankF
 refine sum_one List.nodup_range (List.mem_range.2 hs) (fun j e => ?_) ?_
 ·unfold Frt.put; simp [e]
 ·unfold Frt.put
  simp only [if_true]
  split at h <;> rename_i h2
  ·rw [if_pos h2]; omega
  ·rw [if_neg h2]; omega
def Told (q:SeqM) (k:Frt) (s:Nat):Prop:=(cand q k s≠[]→k.some s = true)∧(k.some s = true→bl (k.l s) = bl (lcpA (cand q k s)))
structure FroI (q:SeqM) (n:Nat) (k:Frt) (wts:Nat→Bool) (xs:List Nat):Prop where
 ok:FrOk q n k
 bnd:∀ s,(k.l s).size≤4096 * cntF k n
 wt:∀ s,s < n→(wts s = true↔s∈xs)
 nd:xs.Nodup
 lt:∀ s∈xs,s < n
 rest:∀ s,s < n→s ∉ xs→Told q k s
 go:∀ s∈xs,cand q k s≠[]
theorem flatMap_same {α β:Type} {f g:α→List β}:∀ {l:List α},(∀ x∈l,f x = g x)→l.flatMap f = l.flatMap g
 | [],_ => rfl
 | x :: l,h => by
  rw [List.flatMap_cons,List.flatMap_cons,h x List.mem_cons_self,flatMap_same fun y hy => h y (List.mem_cons_of_mem _ hy)]
theorem cand_same {q:SeqM} {k:Frt} {s t:Nat} {f:ByteArray} (h:∀ b,b < 256→0≤q.nx t b→(q.nx t b).toNat≠s):cand q (k.put s f) t = cand q k t:=by
 unfold cand candN
 congr 1
 refine flatMap_same fun b hb => ?_
 have hb:=List.mem_range.1 hb
 unfold candB
 by_cases h0:q.nx t b < 0
 ·rw [if_pos (.inl h0),if_pos (.inl h0)]
 ·have:=h b hb (by omega)
  unfold Frt.put
  simp only [this,if_false]
theorem FroI.skip {q:SeqM} {n:Nat} {k:Frt} {wts:Nat→Bool} {s:Nat} {xs:List Nat} (h:FroI q n k wts (s :: xs)) (h1:k.some s = true) (h2:lcpA (cand q k s) = k.l s):FroI q n k (fun j => if j = s then false else wts j) xs:=by
 have hnd:=List.nodup_cons.1 h.nd
 refine ⟨h.ok,h.bnd,fun t ht => ?_,hnd.2,fun t ht => h.lt t (List.mem_cons_of_mem _ ht),fun t ht hn => ?_,fun t ht => h.go t (List.mem_cons_of_mem _ ht)⟩
 ·by_cases e:t = s
  ·subst e; simp [hnd.1]
  ·rw [if_neg e,h.wt t ht,List.mem_cons]; simp [e]
 ·by_cases e:t = s
  ·subst e; exact ⟨fun _ => h1,fun _ => by rw [h2]⟩
  ·exact h.rest t ht (fun c => (List.mem_cons.1 c).elim e hn)
structure FroJ (q:SeqM) (n:Nat) (k:Frt) (wts:Nat→Bool) (xs:List Nat) (l:List Int):Prop where
 ok:FrOk q n k
 bnd:∀ s,(k.l s).size≤4096 * cntF k n
 wt:∀ s,s < n→(wts s = true↔s∈xs)
 nd:xs.Nodup
 lt:∀ s∈xs,s < n
 rest:∀ s,s < n→s ∉ xs→(s:Int)∈l∨Told q k s
 go:∀ s∈xs,cand q k s≠[]
theorem FroJ.done {q:SeqM} {n:Nat} {k:Frt} {wts:Nat→Bool} {xs:List Nat} (h:FroJ q n k wts xs []):FroI q n k wts xs :=
 ⟨h.ok,h.bnd,h.wt,h.nd,h.lt,fun s hs hn => (h.rest s hs hn).resolve_left (fun c => by cases c),h.go⟩
theorem FroI.size {q:SeqM} {n:Nat} {k:Frt} {wts:Nat→Bool} {s:Nat} {xs:List Nat} (h:FroI q n k wts (s :: xs)) (hck:ckB q = true) (hn:q.next.length = n):∀ x∈cand q k s,x.size≤4096 + 4096 * cntF k n :=
 candN_size hck (by rw [hn]; exact h.lt s List.mem_cons_self) (Nat.le_refl _) h.bnd
theorem FroI.tell {q:SeqM} {n:Nat} {k:Frt} {wts:Nat→Bool} {s:Nat} {xs:List Nat} (h:FroI q n k wts (s :: xs)) (hck:ckB q = true) (hn:q.next.length = n) {l:List Int} (hl:∀ t b,t < n→b < 256→q.nx t b = (s:Int)→(t:Int)∈l) :
    FroJ q n (k.put s (lcpA (cand q k s))) (fun j => if j = s then false else wts j) xs l:=by
 have hnd:=List.nodup_cons.1 h.nd
 have hs:=h.lt s List.mem_cons_self
 have hc:=h.go s List.mem_cons_self
 have hsz:=h.size hck hn
 refine ⟨h.ok.put hs hc,fun t => ?_,fun t ht => ?_,hnd.2,fun t ht => h.lt t (List.mem_cons_of_mem _ ht),fun t ht hnn => ?_,fun t ht e => ?_⟩
 ·have hb:=h.bnd t
  rw [cntF_put _ hs]
  by_cases e:t = s
  ·subst e
   have e2:(k.put t (lcpA (cand q k t))).l t = lcpA (cand q k t):=by unfold Frt.put; simp
   rw [e2]
   split
   ·rename_i h2
    have:=(h.ok.down t h2).2.length_le
    rw [bl_len,bl_len] at this
    omega
   ·have:=lcpA_size hsz
    omega
  ·have e2:(k.put s (lcpA (cand q k s))).l t = k.l t:=by unfold Frt.put; simp [e]
   rw [e2]
   split <;> omega
 ·by_cases e:t = s
  ·subst e; simp [hnd.1]
  ·rw [if_neg e,h.wt t ht,List.mem_cons]; simp [e]
 ·by_cases hin:(t:Int)∈l
  ·exact .inl hin
  ·right
   have hcs:=cand_same (q:=q) (k:=k) (s:=s) (t:=t) (f:=lcpA (cand q k s)) fun b hb h0 e => hin (hl t b ht hb (by omega))
   unfold Told
   rw [hcs]
   by_cases e:t = s
   ·subst e
    unfold Frt.put
    simp
   ·have h3:=h.rest t ht (fun c => (List.mem_cons.1 c).elim e hnn)
    unfold Frt.put
    simp only [e,if_false]
    exact h3
 ·have:=h.go t (List.mem_cons_of_mem _ ht)
  obtain ⟨x,hx⟩:=List.exists_mem_of_ne_nil _ this
  have hf:k.some s = true→bl (lcpA (cand q k s)) <+: bl (k.l s):=fun e => (h.ok.down s e).2
  obtain ⟨y,hy,_⟩:=cand_put hf t x hx
  rw [e] at hy; cases hy
theorem FroJ.pass {q:SeqM} {n:Nat} {k:Frt} {wts:Nat→Bool} {xs:List Nat} {z:Nat} {l:List Int} (h:FroJ q n k wts xs ((z:Int) :: l)) (hz:z < n) (hw:wts z = true):FroJ q n k wts xs l :=
 ⟨h.ok,h.bnd,h.wt,h.nd,h.lt,fun s hs hn => by
  rcases h.rest s hs hn with h2 | h2
  ·rcases List.mem_cons.1 h2 with e | e
   ·have:s = z:=by omega
    subst this
    exact absurd ((h.wt s hs).1 hw) hn
   ·exact .inl e
  ·exact .inr h2,h.go⟩
theorem FroJ.push {q:SeqM} {n:Nat} {k:Frt} {wts:Nat→Bool} {xs:List Nat} {z:Nat} {l:List Int} (h:FroJ q n k wts xs ((z:Int) :: l)) (hz:z < n) (hw:wts z = false) (hc:cand q k z≠[]):FroJ q n k (fun j => if j = z then true else wts j) (xs ++ [z]) l:=by
 have hzx:z ∉ xs:=fun e => by rw [(h.wt z hz).2 e] at hw; cases hw
 refine ⟨h.ok,h.bnd,fun t ht => ?_,?_,fun t ht => ?_,fun t ht hn => ?_,fun t ht => ?_⟩
 ·by_cases e:t = z
  ·simp [e]
  ·rw [if_neg e,h.wt t ht,List.mem_append,List.mem_singleton]; simp [e]
 ·rw [List.nodup_append]
  exact ⟨h.nd,by simp,fun a ha b hb => by rw [List.mem_singleton] at hb; subst hb; exact fun e => hzx (e ▸ ha)⟩
 ·rcases List.mem_append.1 ht with ht | ht
  ·exact h.lt t ht
  ·rw [List.mem_singleton] at ht; subst ht; exact hz
 ·rw [List.mem_append,List.mem_singleton,not_or] at hn
  rcases h.rest t ht hn.1 with h2 | h2
  ·rcases List.mem_cons.1 h2 with e | e
   ·exact absurd (show t = z by omega) hn.2
   ·exact .inl e
  ·exact .inr h2
 ·rcases List.mem_append.1 ht with ht | ht
  ·exact h.go t ht
  ·rw [List.mem_singleton] at ht; subst ht; exact hc
theorem FroI.fronts {q:SeqM} {k:Frt} {wts:Nat→Bool} (h:FroI q q.next.length k wts []) (hck:ckB q = true):Fronts q k :=
 h.ok.fronts (fun s b hs hb => (ckB_nx hck hs hb).2.1) fun s hs => h.rest s hs (fun c => by cases c)
end Go.Proofs.YtcondkihpmmnnaaGreatDoor
namespace Go.Proofs.YtcondkihpmmnnaaGreatDoor
open Go.RowKit Go.Sort
def putT (t:ByteArray):List UInt8:=Lib.decDigits t.size ++ 58 :: bl t
def plainB (q:SeqM) (s c:Nat):List UInt8:=if q.nx s c < 0 then [] else 103 :: (Lib.decDigits c ++ 58 :: putT (q.os s c))
def plainE (q:SeqM) (s:Nat):List UInt8:=if q.en s = true then 101 :: putT (q.tl s) else []
def plainN (q:SeqM) (s n:Nat):List UInt8:=plainE q s ++ (List.range n).flatMap (plainB q s)
def plainK (q:SeqM) (s:Nat):List UInt8:=plainN q s 256
theorem plainN_next (q:SeqM) (s n:Nat):plainN q s (n + 1) = plainN q s n ++ plainB q s n:=by
 unfold plainN; rw [List.range_succ,List.flatMap_append,List.append_assoc]; simp
theorem dec_len {u:Nat} (hu:u < 10000000000000):(Lib.decDigits u).length≤20:=by
 rw [Lib.decDigits_length]
 by_cases h:Lib.nDigits u≤20
 ·exact h
 ·exfalso
  have:=Lib.nDigits_pos u
  have h3:∀ k u,u < 10 ^ (k + 1)→Lib.nDigits u≤k + 1:=by
   intro k
   induction k with
   | zero => intro u hu; rw [Lib.nDigits_small (by simpa using hu)]; exact Nat.le_refl _
   | succ k ih =>
    intro u hu
    by_cases h10:u < 10
    ·rw [Lib.nDigits_small h10]; omega
    ·rw [Lib.nDigits_big h10]
     have:=ih (u / 10) (Nat.div_lt_of_lt_mul (by rw [Nat.pow_succ,Nat.mul_comm] at hu; exact hu))
     omega
  exact h (h3 19 u (Nat.lt_of_lt_of_le hu (by decide)))
theorem putT_len {t:ByteArray} (h:t.size≤4096):(putT t).length≤4200:=by
 unfold putT
 have:=dec_len (u:=t.size) (by omega)
 rw [List.length_append,List.length_cons,bl_len]; omega
theorem plainB_len {q:SeqM} {s c:Nat} (hc:c < 256) (h:(q.os s c).size≤4096):(plainB q s c).length≤4300:=by
 unfold plainB
 split
 ·exact Nat.zero_le _
 ·have h1:=putT_len h
  have h2:=dec_len (u:=c) (by omega)
  rw [List.length_cons,List.length_append,List.length_cons]; omega
theorem plainN_len {q:SeqM} {s:Nat} (ht:(q.tl s).size≤4096) (h:∀ c,c < 256→(q.os s c).size≤4096):∀ n,n≤256→(plainN q s n).length≤4300 * (n + 1)
 | 0,_ => by
  unfold plainN plainE
  have:=putT_len ht
  simp only [List.range_zero,List.flatMap_nil,List.append_nil]
  split
  ·rw [List.length_cons]; omega
  ·exact Nat.zero_le _
 | n + 1,hn => by
  have h1:=plainN_len ht h n (by omega)
  have h2:=plainB_len (q:=q) (s:=s) (c:=n) (by omega) (h n (by omega))
  rw [plainN_next,List.length_append]; omega
theorem putT_inj {t u:ByteArray} {x y:List UInt8} (h:putT t ++ x = putT u ++ y):t = u∧x = y:=by
 unfold putT at h
 simp only [List.append_assoc,List.cons_append] at h
 obtain ⟨e1,h2⟩:=colon_split (decDigits_val _).2 (decDigits_val _).2 h
 obtain ⟨e2,e3⟩:=List.append_inj h2 (by rw [bl_len,bl_len]; exact decDigits_inj e1)
 exact ⟨bl_inj e2,e3⟩
def plainL (q:SeqM) (s:Nat) (l:List Nat):List UInt8:=l.flatMap (plainB q s)
theorem plainL_head (q:SeqM) (s:Nat):∀ l:List Nat,plainL q s l = []∨∃ c∈l,∃ r,plainL q s l = 103 :: (Lib.decDigits c ++ 58 :: r)
 | [] => .inl rfl
 | c :: l => by
  have e:plainL q s (c :: l) = plainB q s c ++ plainL q s l:=rfl
  rw [e]
  unfold plainB
  by_cases h:q.nx s c < 0
  ·rw [if_pos h,List.nil_append]
   rcases plainL_head q s l with h2 | ⟨c',hc,r,h2⟩
   ·exact .inl h2
   ·exact .inr ⟨c',List.mem_cons_of_mem _ hc,r,h2⟩
  ·rw [if_neg h]
   exact .inr ⟨c,List.mem_cons_self,putT (q.os s c) ++ plainL q s l,by simp⟩
theorem plainL_inj {q:SeqM} {s t:Nat}:∀ {l:List Nat},l.Nodup→plainL q s l = plainL q t l→∀ b∈l,(q.nx s b < 0↔q.nx t b < 0)∧(0≤q.nx s b→q.os s b = q.os t b)
 | [],_,_,b,hb => (by cases hb)
 | c :: l,hd,h,b,hb => by
  have hd':=List.nodup_cons.1 hd
  have e1:plainL q s (c :: l) = plainB q s c ++ plainL q s l:=rfl
  have e2:plainL q t (c :: l) = plainB q t c ++ plainL q t l:=rfl
  rw [e1,e2] at h
  have one:∀ s t,¬ q.nx s c < 0→q.nx t c < 0→plainB q s c ++ plainL q s l = plainB q t c ++ plainL q t l→False:=fun s t h1 h2 h => by
   unfold plainB at h
   rw [if_neg h1,if_pos h2,List.nil_append] at h
   rcases plainL_head q t l with h3 | ⟨c',hc,r,h3⟩
   ·rw [h3] at h; cases h
   ·rw [h3] at h
    simp only [List.cons_append,List.append_assoc] at h
    obtain ⟨e,_⟩:=colon_split (decDigits_val _).2 (decDigits_val _).2 (List.cons.inj h).2
    exact hd'.1 (by rw [decDigits_inj e]; exact hc)
  have hsplit:((q.nx s c < 0↔q.nx t c < 0)∧(0≤q.nx s c→q.os s c = q.os t c))∧plainL q s l = plainL q t l:=by
   by_cases h1:q.nx s c < 0
   ·by_cases h2:q.nx t c < 0
    ·unfold plainB at h
     rw [if_pos h1,if_pos h2] at h
     exact ⟨⟨by simp [h1,h2],fun h => by omega⟩,by simpa using h⟩
    ·exact (one t s h2 h1 h.symm).elim
   ·by_cases h2:q.nx t c < 0
    ·exact (one s t h1 h2 h).elim
    ·unfold plainB at h
     rw [if_neg h1,if_neg h2] at h
     simp only [List.cons_append,List.append_assoc] at h
     obtain ⟨_,h3⟩:=colon_split (decDigits_val _).2 (decDigits_val _).2 (List.cons.inj h).2
     obtain ⟨h4,h5⟩:=putT_inj h3
     exact ⟨⟨by simp [h1,h2],fun _ => h4⟩,h5⟩
  rcases List.mem_cons.1 hb with rfl | hb
  ·exact hsplit.1
  ·exact plainL_inj hd'.2 hsplit.2 b hb
def PlainEq (q:SeqM) (s t:Nat):Prop:=q.en s = q.en t∧(q.en s = true→q.tl s = q.tl t)∧∀ b,b < 256→(q.nx s b < 0↔q.nx t b < 0)∧(0≤q.nx s b→q.os s b = q.os t b)
theorem plain_iff (q:SeqM) (s t:Nat):plainK q s = plainK q t↔PlainEq q s t:=by
 have e:∀ s,plainK q s = plainE q s ++ plainL q s (List.range 256):=fun s => rfl
 rw [e,e]
 constructor
 ·intro h
  have hfin:∀ s t,q.en s = true→q.en t = false→plainE q s ++ plainL q s (List.range 256) = plainE q t ++ plainL q t (List.range 256)→False:=fun s t h1 h2 h => by
   unfold plainE at h
   rw [if_pos h1,h2,if_neg (by decide),List.nil_append] at h
   rcases plainL_head q t (List.range 256) with h3 | ⟨_,_,_,h3⟩ <;> rw [h3] at h
   ·cases h
   ·exact absurd (List.cons.inj h).1 (by decide)
  have hsp:(q.en s = q.en t∧(q.en s = true→q.tl s = q.tl t))∧plainL q s (List.range 256) = plainL q t (List.range 256):=by
   rcases h1:q.en s with _ | _ <;> rcases h2:q.en t with _ | _
   ·unfold plainE at h
    rw [h1,h2,if_neg (by decide)] at h
    exact ⟨⟨rfl,fun h => by cases h⟩,by simpa using h⟩
   ·exact (hfin t s h2 h1 h.symm).elim
   ·exact (hfin s t h1 h2 h).elim
   ·unfold plainE at h
    rw [if_pos h1,if_pos h2] at h
    obtain ⟨h3,h4⟩:=putT_inj (List.cons.inj h).2
    exact ⟨⟨rfl,fun _ => h3⟩,h4⟩
  exact ⟨hsp.1.1,hsp.1.2,fun b hb => plainL_inj List.nodup_range hsp.2 b (List.mem_range.2 hb)⟩
 ·rintro ⟨h1,h2,h3⟩
  have a1:plainE q s = plainE q t:=by
   unfold plainE
   rw [h1] at h2 ⊢
   split
   ·rename_i h; rw [h2 h]
   ·rfl
  have a2:plainL q s (List.range 256) = plainL q t (List.range 256):=by
   unfold plainL
   refine flatMap_same fun b hb => ?_
   obtain ⟨h4,h5⟩:=h3 b (List.mem_range.1 hb)
   unfold plainB
   by_cases h:q.nx s b < 0
   ·rw [if_pos h,if_pos (h4.1 h)]
   ·rw [if_neg h,if_neg (fun e => h (h4.2 e)),h5 (by omega)]
  rw [a1,a2]
end Go.Proofs.YtcondkihpmmnnaaGreatDoor
namespace Go.Proofs.YtcondkihpmmnnaaGreatDoor
structure NumI (f:Nat→List UInt8) (n:Nat) (m:Nat→Nat) (ks:List (List UInt8)):Prop where
 at_:∀ t,t < n→ks[m t]? = some (f t)
 onto:∀ i,i < ks.length→∃ t,t < n∧m t = i
theorem NumI.start (f:Nat→List UInt8) (m:Nat→Nat):NumI f 0 m []:=⟨fun _t h => absurd h (Nat.not_lt_zero _),fun _i h => absurd h (Nat.not_lt_zero _)⟩
theorem NumI.put {f:Nat→List UInt8} {n i:Nat} {m:Nat→Nat} {ks:List (List UInt8)} (h:NumI f n m ks) (hi:(putK ks (f n))[i]? = some (f n)):NumI f (n + 1) (fun t => if t = n then i else m t) (putK ks (f n)):=by
 have hlt:∀ t,t < n→m t < ks.length:=fun t ht => by
  rcases Nat.lt_or_ge (m t) ks.length with e | e
  ·exact e
  ·have:=h.at_ t ht; rw [List.getElem?_eq_none e] at this; cases this
 refine ⟨fun t ht => ?_,fun j hj => ?_⟩
 ·by_cases e:t = n
  ·subst e; rw [if_pos rfl]; exact hi
  ·rw [if_neg e]
   have h1:=h.at_ t (by omega)
   unfold putK
   split
   ·exact h1
   ·rw [List.getElem?_append_left (hlt t (by omega))]; exact h1
 ·by_cases hm:f n∈ks
  ·unfold putK at hj
   rw [if_pos hm] at hj
   obtain ⟨t,h1,h2⟩:=h.onto j hj
   exact ⟨t,by omega,by rw [if_neg (by omega)]; exact h2⟩
  ·unfold putK at hj hi
   rw [if_neg hm] at hj hi
   rcases Nat.lt_or_ge j ks.length with e | e
   ·obtain ⟨t,h1,h2⟩:=h.onto j e
    exact ⟨t,by omega,by rw [if_neg (by omega)]; exact h2⟩
   ·refine ⟨n,by omega,?_⟩
    rw [if_pos rfl]
    have hj2:j = ks.length:=by simp at hj; omega
    rcases Nat.lt_trichotomy i ks.length with e2 | e2 | e2
    ·rw [List.getElem?_append_left e2] at hi
     exact absurd (List.mem_of_getElem? hi) hm
    ·omega
    ·rw [List.getElem?_eq_none (by simp; omega)] at hi; cases hi
structure Numbered (f:Nat→List UInt8) (n:Nat) (m:Nat→Nat) (c:Nat):Prop where
 lt:∀ s,s < n→m s < c
 eq:∀ s t,s < n→t < n→(m s = m t↔f s = f t)
 onto:∀ i,i < c→∃ s,s < n∧m s = i
theorem NumI.done {f:Nat→List UInt8} {n:Nat} {m:Nat→Nat} {ks:List (List UInt8)} (h:NumI f n m ks) (hd:ks.Nodup):Numbered f n m ks.length:=by
 have hlt:∀ t,t < n→m t < ks.length:=fun t ht => by
  rcases Nat.lt_or_ge (m t) ks.length with e | e
  ·exact e
  ·have:=h.at_ t ht; rw [List.getElem?_eq_none e] at this; cases this
 refine ⟨hlt,fun s t hs ht => ?_,h.onto⟩
 have h1:=h.at_ s hs
 have h2:=h.at_ t ht
 constructor
 ·intro e
  rw [e,h2] at h1
  exact (Option.some.inj h1).symm
 ·intro e
  rw [List.getElem?_eq_getElem (hlt s hs)] at h1
  rw [List.getElem?_eq_getElem (hlt t ht)] at h2
  have:ks[m s]'(hlt s hs) = ks[m t]'(hlt t ht):=by rw [Option.some.inj h1,Option.some.inj h2,e]
  exact (List.getElem_inj hd).1 this
def enc2 (x:Nat):List UInt8:=[UInt8.ofNat (x / 256),UInt8.ofNat x]
theorem enc2_inj {x y:Nat} (hx:x < 65536) (hy:y < 65536) (h:enc2 x = enc2 y):x = y:=by
 unfold enc2 at h
 have h1:=congrArg UInt8.toNat (List.cons.inj h).1
 have h2:=congrArg UInt8.toNat (List.cons.inj (List.cons.inj h).2).1
 simp at h1 h2
 omega
def keyB (q:SeqM) (l:Nat→Nat) (s b:Nat):List UInt8:=if q.nx s b < 0 then [] else enc2 (l (q.nx s b).toNat)
def keyN (q:SeqM) (l:Nat→Nat) (s n:Nat):List UInt8:=enc2 (l s) ++ (List.range n).flatMap (keyB q l s)
def keyK (q:SeqM) (l:Nat→Nat) (s:Nat):List UInt8:=keyN q l s 256
theorem keyN_next (q:SeqM) (l:Nat→Nat) (s n:Nat):keyN q l s (n + 1) = keyN q l s n ++ keyB q l s n:=by
 unfold keyN; rw [List.range_succ,List.flatMap_append,List.append_assoc]; simp
theorem keyN_len (q:SeqM) (l:Nat→Nat) (s:Nat):∀ n,(keyN q l s n).length≤2 * n + 2
 | 0 => by unfold keyN; simp [enc2]
 | n + 1 => by
  rw [keyN_next,List.length_append]
  have:=keyN_len q l s n
  have:(keyB q l s n).length≤2:=by unfold keyB; split <;> simp [enc2]
  omega
theorem keyL_inj {q:SeqM} {l:Nat→Nat} {s t:Nat} (hl:∀ z,l z < 65536):∀ (L:List Nat),(∀ b∈L,(q.nx s b < 0↔q.nx t b < 0))→L.flatMap (keyB q l s) = L.flatMap (keyB q l t)→∀ b∈L,0≤q.nx s b→l (q.nx s b).toNat = l (q.nx t b).toNat
 | [],_,_,b,hb,_ => (by cases hb)
 | c :: L,hs,h,b,hb,h0 => by
  rw [List.flatMap_cons,List.flatMap_cons] at h
  have hc:=hs c List.mem_cons_self
  have hsp:(0≤q.nx s c→l (q.nx s c).toNat = l (q.nx t c).toNat)∧L.flatMap (keyB q l s) = L.flatMap (keyB q l t):=by
   by_cases e:q.nx s c < 0
   ·have e1:keyB q l s c = []:=if_pos e
    have e2:keyB q l t c = []:=if_pos (hc.1 e)
    rw [e1,e2] at h
    exact ⟨fun h0 => by omega,by simpa using h⟩
   ·have e1:keyB q l s c = enc2 (l (q.nx s c).toNat):=if_neg e
    have e2:keyB q l t c = enc2 (l (q.nx t c).toNat):=if_neg (fun e2 => e (hc.2 e2))
    rw [e1,e2] at h
    obtain ⟨h1,h2⟩:=List.append_inj h rfl
    exact ⟨fun _ => enc2_inj (hl _) (hl _) h1,h2⟩
  rcases List.mem_cons.1 hb with rfl | hb
  ·exact hsp.1 h0
  ·exact keyL_inj hl L (fun b hb => hs b (List.mem_cons_of_mem _ hb)) hsp.2 b hb h0
structure PartI (q:SeqM) (n:Nat) (m:Nat→Nat) (c:Nat):Prop where
 lt:∀ s,s < n→m s < c
 onto:∀ i,i < c→∃ s,s < n∧m s = i
 fine:∀ s t,s < n→t < n→m s = m t→PlainEq q s t
 full:∀ s t,s < n→t < n→SameOn q s t→m s = m t
theorem onto_le {n c:Nat} {m:Nat→Nat} (h:∀ i,i < c→∃ s,s < n∧m s = i):c≤n:=by
 have hsub:List.range c ⊆ (List.range n).map m:=fun i hi => by
  obtain ⟨s,h1,h2⟩:=h i (List.mem_range.1 hi)
  exact List.mem_map.2 ⟨s,List.mem_range.2 h1,h2⟩
 have:=List.nodup_range.length_le_of_subset hsub
 simpa using this
theorem alike_plain {q:SeqM} (hq:Tight q) {s t:Nat} (hs:s < q.next.length) (ht:t < q.next.length) (h:SameOn q s t):PlainEq q s t:=by
 obtain ⟨h1,h2,h3⟩:=alike_step hq hq hs ht h
 exact ⟨h1,h2,fun b hb => ⟨(h3 b hb).1,fun h0 => ((h3 b hb).2 h0).1⟩⟩
theorem PartI.start {q:SeqM} {n c:Nat} {m:Nat→Nat} (hq:Tight q) (hn:q.next.length = n) (h:Numbered (plainK q) n m c):PartI q n m c :=
 ⟨h.lt,h.onto,fun s t hs ht e => (plain_iff q s t).1 ((h.eq s t hs ht).1 e),fun s t hs ht e => (h.eq s t hs ht).2 ((plain_iff q s t).2 (alike_plain hq (by omega) (by omega) e))⟩
structure PartsOk (q:SeqM) (n:Nat) (m:Nat→Nat) (c:Nat):Prop where
 lt:∀ s,s < n→m s < c
 onto:∀ i,i < c→∃ s,s < n∧m s = i
 eq:∀ s t,s < n→t < n→(m s = m t↔SameOn q s t)
theorem same_of_stable {q:SeqM} {n:Nat} {m:Nat→Nat} (hz:∀ s b,s < n→b < 256→q.nx s b < (n:Int)) (hp:∀ s t,s < n→t < n→m s = m t→PlainEq q s t)
    (hx:∀ s t,s < n→t < n→m s = m t→∀ b,b < 256→0≤q.nx s b→m (q.nx s b).toNat = m (q.nx t b).toNat):∀ (w:List UInt8) (s t:Nat),s < n→t < n→m s = m t→q.runL s w = q.runL t w:=by
 intro w
 induction w with
 | nil =>
  intro s t hs ht e
  obtain ⟨h1,h2,_⟩:=hp s t hs ht e
  unfold SeqM.runL
  rw [← h1]
  split
  ·rename_i h; rw [h2 h]
  ·rfl
 | cons c w ih =>
  intro s t hs ht e
  obtain ⟨_,_,h3⟩:=hp s t hs ht e
  obtain ⟨h4,h5⟩:=h3 c.toNat c.toNat_lt
  unfold SeqM.runL
  by_cases h:q.nx s c.toNat < 0
  ·rw [if_pos h,if_pos (h4.1 h)]
  ·have ht0:¬ q.nx t c.toNat < 0:=fun e2 => h (h4.2 e2)
   have z1:=hz s c.toNat hs c.toNat_lt
   have z2:=hz t c.toNat ht c.toNat_lt
   rw [if_neg h,if_neg ht0,h5 (by omega),ih _ _ (by omega) (by omega) (hx s t hs ht e c.toNat c.toNat_lt (by omega))]
theorem PartI.next {q:SeqM} {n c c':Nat} {l m:Nat→Nat} (h:PartI q n l c) (hq:Tight q) (hn:q.next.length = n) (hl:∀ z,l z < 65536) (hm:Numbered (keyK q l) n m c') :
    PartI q n m c'∧c≤c'∧(c' = c→PartsOk q n m c'):=by
 have key:∀ s t,s < n→t < n→m s = m t→l s = l t∧∀ b,b < 256→0≤q.nx s b→l (q.nx s b).toNat = l (q.nx t b).toNat:=fun s t hs ht e => by
  have h1:=(hm.eq s t hs ht).1 e
  unfold keyK keyN at h1
  obtain ⟨h2,h3⟩:=List.append_inj h1 rfl
  have h4:=enc2_inj (hl _) (hl _) h2
  obtain ⟨_,_,h5⟩:=h.fine s t hs ht h4
  exact ⟨h4,fun b hb h0 => keyL_inj hl (List.range 256) (fun b hb => (h5 b (List.mem_range.1 hb)).1) h3 b (List.mem_range.2 hb) h0⟩
 have hz:∀ s b,s < n→b < 256→q.nx s b < (n:Int):=fun s b hs hb => by rw [← hn]; exact hq.nx s b (by omega) hb
 have hI:PartI q n m c':=by
  refine ⟨hm.lt,hm.onto,fun s t hs ht e => h.fine s t hs ht (key s t hs ht e).1,fun s t hs ht e => (hm.eq s t hs ht).2 ?_⟩
  obtain ⟨_,_,h3⟩:=alike_step hq hq (by omega) (by omega) e
  unfold keyK keyN
  rw [h.full s t hs ht e]
  congr 1
  refine flatMap_same fun b hb => ?_
  have hb:=List.mem_range.1 hb
  obtain ⟨h4,h5⟩:=h3 b hb
  unfold keyB
  by_cases h0:q.nx s b < 0
  ·rw [if_pos h0,if_pos (h4.1 h0)]
  ·have ht0:¬ q.nx t b < 0:=fun e2 => h0 (h4.2 e2)
   have z1:=hz s b hs hb
   have z2:=hz t b ht hb
   rw [if_neg h0,if_neg ht0,h.full _ _ (by omega) (by omega) (h5 (by omega)).2]
 have hrep:∃ r:Nat→Nat,∀ i,i < c'→r i < n∧m (r i) = i:=by
  refine ⟨fun i => if h:i < c' then Classical.choose (hm.onto i h) else 0,fun i hi => ?_⟩
  simp only [dif_pos hi]
  exact Classical.choose_spec (hm.onto i hi)
 obtain ⟨r,hr⟩:=hrep
 have hcov:∀ j,j < c→∃ i,i < c'∧l (r i) = j:=fun j hj => by
  obtain ⟨s,hs,e⟩:=h.onto j hj
  have:=hr (m s) (hm.lt s hs)
  exact ⟨m s,hm.lt s hs,by rw [(key (r (m s)) s this.1 hs this.2).1,e]⟩
 refine ⟨hI,onto_le hcov,fun hcc => ?_⟩
 subst hcc
 have hinj:∀ i j,i < c'→j < c'→l (r i) = l (r j)→i = j:=fun i j hi hj e => by
  apply Decidable.byContradiction
  intro hne
  have hsub:List.range c' ⊆ ((List.range c').erase j).map fun i => l (r i):=fun x hx => by
   obtain ⟨y,hy,hy2⟩:=hcov x (List.mem_range.1 hx)
   by_cases e2:y = j
   ·subst e2
    exact List.mem_map.2 ⟨i,(List.mem_erase_of_ne hne).2 (List.mem_range.2 hi),by rw [e,hy2]⟩
   ·exact List.mem_map.2 ⟨y,(List.mem_erase_of_ne e2).2 (List.mem_range.2 hy),hy2⟩
  have:=List.nodup_range.length_le_of_subset hsub
  rw [List.length_map,List.length_erase_of_mem (List.mem_range.2 hj),List.length_range] at this
  omega
 have hback:∀ s t,s < n→t < n→l s = l t→m s = m t:=fun s t hs ht e => by
  have h1:=hr (m s) (hm.lt s hs)
  have h2:=hr (m t) (hm.lt t ht)
  exact hinj (m s) (m t) (hm.lt s hs) (hm.lt t ht) (by rw [(key _ s h1.1 hs h1.2).1,(key _ t h2.1 ht h2.2).1,e])
 refine ⟨hm.lt,hm.onto,fun s t hs ht => ⟨fun e w => ?_,hI.full s t hs ht⟩⟩
 refine same_of_stable hz hI.fine (fun s t hs ht e b hb h0 => ?_) w s t hs ht e
 have z1:=hz s b hs hb
 have z2:=hz t b ht hb
 have h4:=((hI.fine s t hs ht e).2.2 b hb).1
 exact hback _ _ (by omega) (by omega) ((key s t hs ht e).2 b hb h0)
end Go.Proofs.YtcondkihpmmnnaaGreatDoor
namespace Go.Proofs.YtcondkihpmmnnaaGreatDoor
open Go.RowKit Go.Sort
def iV (m:Nat→Nat) (n:Nat):Array Value:=(rowV (fun s => .int .i64 (m s:Int)) n).toArray
theorem iV_at (m:Nat→Nat) {n k:Nat} (h:k < n):(iV m n)[k]? = some (.int .i64 (m k:Int)):=by
 unfold iV; rw [List.getElem?_toArray,rowV_at _ h]
theorem iV_set (m:Nat→Nat) (n k i:Nat) (hk:k < n):(iV m n).setIfInBounds k (.int .i64 (i:Int)) = iV (fun j => if j = k then i else m j) n:=by
 unfold iV
 rw [List.setIfInBounds_toArray,rowV_set _ _ _ _ hk]
 congr 2
 funext j
 by_cases e:j = k <;> simp [e]
theorem iV_zero (n:Nat):(List.replicate n (Value.int .i64 0)).toArray = iV (fun _ => 0) n:=by
 unfold iV rowV
 congr 1
 apply List.ext_getElem?
 intro j
 rw [List.getElem?_replicate,List.getElem?_map]
 by_cases hj:j < n
 ·rw [List.getElem?_range hj]; simp [hj]
 ·rw [List.getElem?_eq_none (by simpa using hj)]; simp [hj]
structure PrtW (W0 wr:World) (n gl gx bm:Nat) (m:Nat→Nat) (ks:List (List UInt8)):Prop where
 l:Blk wr gl 3 (iV m n)
 x:Blk wr gx 146 #[.map (some bm)]
 num:Num wr bm ks
 bl:W0.heap.size≤gl
 bx:W0.heap.size≤gx
 bm:W0.heap.size≤bm
 bel:Below W0.heap.size W0 wr
section
variable {W0 wr w':World} {n gl gx bm:Nat} {m:Nat→Nat} {ks ks':List (List UInt8)}
theorem PrtW.call (h:PrtW W0 wr n gl gx bm m ks) (hb:Below wr.heap.size wr w'):PrtW W0 w' n gl gx bm m ks :=
 ⟨h.l.below hb h.l.lt,h.x.below hb h.x.lt,h.num.below hb (Nat.le_refl _),h.bl,h.bx,h.bm,h.bel.trans (hb.mono h.bel.size)⟩
theorem PrtW.num_ (h:PrtW W0 wr n gl gx bm m ks) (hg:wr.grownBy w' (some bm)) (hn:Num w' bm ks'):PrtW W0 w' n gl gx bm m ks' :=
 ⟨h.l.grown hg (fun e => num_block h.num h.l (Option.some.inj e)),h.x.grown hg (fun e => num_block h.num h.x (Option.some.inj e)),hn,h.bl,h.bx,h.bm,h.bel.grown hg h.bel.size (fun k hk => by rw [← Option.some.inj hk]; exact h.bm)⟩
theorem PrtW.set (h:PrtW W0 wr n gl gx bm m ks) (s i:Nat) (hs:s < n):PrtW W0 (wr.setCell ⟨gl,s,none⟩ (.int .i64 (i:Int))) n gl gx bm (fun t => if t = s then i else m t) ks:=by
 have n1:gx≠gl:=Blk.ne_ h.x h.l (by decide)
 refine ⟨?_,h.x.far (p:=⟨gl,s,none⟩) n1 _,h.num.kept (Lib.grownBy_setCell wr gl s _) (fun e => num_block h.num h.l (Option.some.inj e).symm),h.bl,h.bx,h.bm,h.bel.setCell (p:=⟨gl,s,none⟩) h.bl _⟩
 have:=h.l.set_ s (.int .i64 (i:Int))
 rwa [iV_set _ _ _ _ hs] at this
end
theorem own_ofBlk {w:World} {base g:Nat} {e:TypeId} {xs:List Value} (hb:base≤g) (h:Blk w g e xs.toArray) (hm:xs.length≤maxLen):w.ownsRow base e 1 (.slice (some ⟨g,0,none⟩) xs.length xs.length) xs.length xs :=
 ⟨by simp,.inr ⟨g,xs.length,xs.toArray,rfl,hb,h,Nat.le_refl _,hm,by simp,by simp⟩⟩
theorem enc2_cells {x:Nat} (hx:x≤2000):Lib.byteCells (enc2 x) = [.int .u8 ((x:Int) / 256),.int .u8 ((x:Int) % 256)]:=by
 unfold Lib.byteCells enc2
 have h1:(UInt8.ofNat (x / 256)).toNat = x / 256:=by simp; omega
 have h2:(UInt8.ofNat x).toNat = x % 256:=by simp
 simp only [List.map_cons,List.map_nil,h1,h2]
 rfl
theorem PrtW.row {W0 wr w':World} {n gl gx bm size len:Nat} {m:Nat→Nat} {ks:List (List UInt8)} {v:Value} {xs:List Value} (h:PrtW W0 wr n gl gx bm m ks) (ho:wr.ownsRow W0.heap.size 5 size v len xs) (hg:wr.grownBy w' v.ownBlock):PrtW W0 w' n gl gx bm m ks :=
 ⟨blk_keep h.l hg (own_blk ho h.l (by decide)),blk_keep h.x hg (own_blk ho h.x (by decide)),h.num.kept hg (fun e => num_own h.num ho e.symm),h.bl,h.bx,h.bm,h.bel.grown hg h.bel.size (fun k hk => (own_lt ho k hk).1)⟩
theorem own_string {w:World} {base c:Nat} {a:Addr} {acc:List UInt8} (h:w.ownsRow base 5 1 (.slice (some a) acc.length c) acc.length (Lib.byteCells acc)) :
    (convert 81 9 (.slice (some a) acc.length c)).run Tryz.prog w = .ok (.string ⟨acc.toArray⟩) w:=by
 refine run_convert_bytes_back w _ _ 5 a c acc Tryz.underlying81 Tryz.underlying5 Tryz.underlying9 fun j hj => ?_
 have hR:=Reads.of_own h
 obtain ⟨ad,e,_,hc⟩:=hR.2 (by omega)
 have:=Option.some.inj e
 subst this
 refine hc j _ ?_
 unfold Lib.byteCells
 rw [List.getElem?_map,List.getElem?_eq_getElem hj]; rfl
def PartsPost (q:SeqM) (n:Nat) (w:World) (e:Ending) (w':World):Prop :=
 ∃ g m c,e = .returned (.tuple #[.slice (some ⟨g,0,none⟩) n n,.int .i64 ((c:Nat):Int)])∧Blk w' g 3 (iV m n)∧w.heap.size≤g∧Below w.heap.size w w'∧PartsOk q n m c
end Go.Proofs.YtcondkihpmmnnaaGreatDoor
namespace Go.Proofs.YtcondkihpmmnnaaGreatDoor
open Go.RowKit Go.Sort
def kept (q:SeqM) (pl:Nat→Int) (s b:Nat):Prop:=0≤q.nx s b∧0≤pl (q.nx s b).toNat
instance (q:SeqM) (pl:Nat→Int) (s b:Nat):Decidable (kept q pl s b):=by unfold kept; infer_instance
def nextT (q:SeqM) (pl:Nat→Int) (s b:Nat):Int:=if kept q pl s b then pl (q.nx s b).toNat else -1
def outsT (q:SeqM) (k:Frt) (pl:Nat→Int) (s b:Nat):ByteArray:=if kept q pl s b then (q.os s b ++ k.l (q.nx s b).toNat).extract (k.l s).size (q.os s b ++ k.l (q.nx s b).toNat).size else ByteArray.empty
def intsV (f:Nat→Int) (n:Nat):Array Value:=(rowV (fun j => .int .i64 (f j)) n).toArray
def strsV (f:Nat→ByteArray) (n:Nat):Array Value:=(rowV (fun j => .string (f j)) n).toArray
theorem intsV_at (f:Nat→Int) {n k:Nat} (h:k < n):(intsV f n)[k]? = some (.int .i64 (f k)):=by
 unfold intsV; rw [List.getElem?_toArray,rowV_at _ h]
theorem strsV_at (f:Nat→ByteArray) {n k:Nat} (h:k < n):(strsV f n)[k]? = some (.string (f k)):=by
 unfold strsV; rw [List.getElem?_toArray,rowV_at _ h]
theorem intsV_set (f:Nat→Int) (n k:Nat) (i:Int) (hk:k < n):(intsV f n).setIfInBounds k (.int .i64 i) = intsV (fun j => if j = k then i else f j) n:=by
 unfold intsV
 rw [List.setIfInBounds_toArray,rowV_set _ _ _ _ hk]
 congr 2
 funext j
 by_cases e:j = k <;> simp [e]
theorem strsV_set (f:Nat→ByteArray) (n k:Nat) (x:ByteArray) (hk:k < n):(strsV f n).setIfInBounds k (.string x) = strsV (fun j => if j = k then x else f j) n:=by
 unfold strsV
 rw [List.setIfInBounds_toArray,rowV_set _ _ _ _ hk]
 congr 2
 funext j
 by_cases e:j = k <;> simp [e]
theorem rowV_congr {f g:Nat→Value} {n:Nat} (h:∀ j,j < n→f j = g j):rowV f n = rowV g n:=by
 unfold rowV
 exact List.map_congr_left fun j hj => h j (List.mem_range.1 hj)
theorem rowV_const (v:Value) (n:Nat):List.replicate n v = rowV (fun _ => v) n:=by
 unfold rowV
 apply List.ext_getElem?
 intro j
 rw [List.getElem?_replicate,List.getElem?_map]
 by_cases hj:j < n
 ·rw [List.getElem?_range hj]; simp [hj]
 ·rw [List.getElem?_eq_none (by simpa using hj)]; simp [hj]
structure TrnW (w wr:World) (gN gO:Nat) (fn:Nat→Int) (fo:Nat→ByteArray):Prop where
 n:Blk wr gN 3 (intsV fn 256)
 o:Blk wr gO 9 (strsV fo 256)
 bn:w.heap.size≤gN
 bo:w.heap.size≤gO
 bel:Below w.heap.size w wr
section
variable {w wr w':World} {gN gO:Nat} {fn:Nat→Int} {fo:Nat→ByteArray}
theorem TrnW.call (h:TrnW w wr gN gO fn fo) (hb:Below wr.heap.size wr w'):TrnW w w' gN gO fn fo :=
 ⟨h.n.below hb h.n.lt,h.o.below hb h.o.lt,h.bn,h.bo,h.bel.trans (hb.mono h.bel.size)⟩
theorem TrnW.setN (h:TrnW w wr gN gO fn fo) (b:Nat) (hb:b < 256) (x:Int):TrnW w (wr.setCell ⟨gN,b,none⟩ (.int .i64 x)) gN gO (fun j => if j = b then x else fn j) fo:=by
 refine ⟨?_,h.o.far (p:=⟨gN,b,none⟩) (Blk.ne_ h.n h.o (by decide)).symm _,h.bn,h.bo,h.bel.setCell (p:=⟨gN,b,none⟩) h.bn _⟩
 have:=h.n.set_ b (.int .i64 x)
 rwa [intsV_set _ _ _ _ hb] at this
theorem TrnW.setO (h:TrnW w wr gN gO fn fo) (b:Nat) (hb:b < 256) (x:ByteArray):TrnW w (wr.setCell ⟨gO,b,none⟩ (.string x)) gN gO fn (fun j => if j = b then x else fo j):=by
 refine ⟨h.n.far (p:=⟨gO,b,none⟩) (Blk.ne_ h.n h.o (by decide)) _,?_,h.bn,h.bo,h.bel.setCell (p:=⟨gO,b,none⟩) h.bo _⟩
 have:=h.o.set_ b (.string x)
 rwa [strsV_set _ _ _ _ hb] at this
end
def LongAt (q:SeqM) (k:Frt) (pl:Nat→Int) (s:Nat):Prop:=∃ b,b < 256∧kept q pl s b∧4096 < (q.os s b).size + (k.l (q.nx s b).toNat).size
def TurnPost (q:SeqM) (k:Frt) (pl:Nat→Int) (s:Nat) (w:World) (e:Ending) (w':World):Prop :=
 Below w.heap.size w w'∧((LongAt q k pl s∧e = .returned (.tuple #[.slice none 0 0,.slice none 0 0,.bool false])) ∨
  ∃ gN gO,e = .returned (.tuple #[.slice (some ⟨gN,0,none⟩) 256 256,.slice (some ⟨gO,0,none⟩) 256 256,.bool true])∧Blk w' gN 3 (intsV (nextT q pl s) 256)∧Blk w' gO 9 (strsV (outsT q k pl s) 256) ∧
   w.heap.size≤gN∧w.heap.size≤gO∧∀ b,b < 256→kept q pl s b→(q.os s b).size + (k.l (q.nx s b).toNat).size≤4096 + (k.l s).size)
end Go.Proofs.YtcondkihpmmnnaaGreatDoor
