/- Lemmas, part 34 of 50. No condition. -/
import Derived.Test.YtcondkihpmmnnaaGreatDoorQ33
import Derived.Test.YtcondkihpmmnnaaGreatDoorQ31
import Derived.Test.YtcondkihpmmnnaaGreatDoorQ32
import Derived.Test.YtcondkihpmmnnaaGreatDoorQ25
namespace Go.Proofs.YtcondkihpmmnnaaGreatDoor
open Go.RowKit Go.Sort
def qV (xs:List Nat):List Value:=xs.map fun z:Nat => Value.int .i64 (z:Int)
def bV (f:Nat→Bool) (n:Nat):Array Value:=(rowV (fun s => .bool (f s)) n).toArray
theorem bV_at (f:Nat→Bool) {n k:Nat} (h:k < n):(bV f n)[k]? = some (.bool (f k)):=by
 unfold bV; rw [List.getElem?_toArray,rowV_at _ h]
theorem bV_set (f:Nat→Bool) (n k:Nat) (v:Bool) (hk:k < n):(bV f n).setIfInBounds k (.bool v) = bV (fun j => if j = k then v else f j) n:=by
 unfold bV
 rw [List.setIfInBounds_toArray,rowV_set _ _ _ _ hk]
 congr 1
 unfold rowV
 apply List.map_congr_left
 intro j _
 show (if j = k then Value.bool v else .bool (f j)) = .bool (if j = k then v else f j)
 split <;> rfl
theorem bV_zero (n:Nat):(List.replicate n (Value.bool false)).toArray = bV (fun _ => false) n:=by
 unfold bV rowV
 congr 1
 apply List.ext_getElem?
 intro j
 rw [List.getElem?_replicate,List.getElem?_map]
 by_cases hj:j < n
 ·rw [List.getElem?_range hj]; simp [hj]
 ·rw [List.getElem?_eq_none (by simpa using hj)]; simp [hj]
def offW (w:World) (g n:Nat):Nat:=((List.range n).filter fun s => match w.cell? ⟨g,s,none⟩ with | some (.bool false) => true | _ => false).length
def offF (f:Nat→Bool) (n:Nat):Nat:=((List.range n).filter fun s => !f s).length
theorem offW_eq {w:World} {g n:Nat} {f:Nat→Bool} {T:TypeId} (h:Blk w g T (bV f n)):offW w g n = offF f n:=by
 unfold offW offF
 congr 1
 apply List.filter_congr
 intro s hs
 rw [h.cell,bV_at f (List.mem_range.1 hs)]
 cases f s <;> rfl
theorem filter_one {l:List Nat} (hd:l.Nodup) {p:Nat→Bool} {s:Nat} (hs:s∈l) (hp:p s = true):(l.filter fun j => if j = s then false else p j).length + 1 = (l.filter p).length:=by
 induction l with
 | nil => cases hs
 | cons x l ih =>
  rw [List.nodup_cons] at hd
  rcases List.mem_cons.1 hs with rfl | hs'
  ·rw [List.filter_cons_of_neg (by simp),List.filter_cons_of_pos (by simpa using hp),List.length_cons]
   congr 2
   apply List.filter_congr
   intro j hj
   have hjs:j≠s:=fun e => hd.1 (by rw [← e]; exact hj)
   rw [if_neg hjs]
  ·have hne:x≠s:=fun e => hd.1 (e ▸ hs')
   have:=ih hd.2 hs'
   by_cases hx:p x = true
   ·rw [List.filter_cons_of_pos (by simp [hne,hx]),List.filter_cons_of_pos hx,List.length_cons,List.length_cons]; omega
   ·rw [List.filter_cons_of_neg (by simp [hne,hx]),List.filter_cons_of_neg hx]; exact this
theorem offF_set {f:Nat→Bool} {n s:Nat} (hs:s < n) (h:f s = false):offF (fun j => if j = s then true else f j) n + 1 = offF f n:=by
 unfold offF
 have:=filter_one (l:=List.range n) List.nodup_range (p:=fun j => !f j) (List.mem_range.2 hs) (by simp [h])
 rw [← this]
 congr 2
 apply List.filter_congr
 intro j _
 by_cases e:j = s
 ·simp [e]
 ·simp [e]
theorem offF_le (f:Nat→Bool) (n:Nat):offF f n≤n:=by
 unfold offF
 exact Nat.le_trans (List.length_filter_le _ _) (by simp)
theorem qV_len (xs:List Nat):(qV xs).length = xs.length:=by unfold qV; simp
def lenOfV:Value→Nat
 | .slice _ n _ => n
 | _ => 0
def ReachedPost (q:SeqM) (n:Nat) (w:World) (e:Ending) (w':World):Prop :=
 ∃ g seen,e = .returned (.slice (some ⟨g,0,none⟩) n n)∧Blk w' g 4 (bV seen n)∧w.heap.size≤g∧Below w.heap.size w w'∧(0 < n→seen 0 = true) ∧
  ∀ s,s < n→seen s = true→∀ b,b < 256→0≤q.nx s b→seen (q.nx s b).toNat = true
structure ReaW (w wr:World) (gS n:Nat) (cs:Array Value) (seen:Nat→Bool) (xs:List Nat) (v:Value):Prop where
 box:Blk wr w.heap.size 27 cs
 seen_:Blk wr gS 4 (bV seen n)
 que:OwnQ wr w.heap.size 3 v (qV xs)
 gS:w.heap.size≤gS
 bel:Below w.heap.size w wr
 first:seen 0 = true
 lt:∀ z∈xs,z < n
section
variable {w wr w':World} {gS n:Nat} {cs:Array Value} {seen:Nat→Bool} {xs:List Nat} {v:Value}
theorem q_blk {base:Nat} {T:TypeId} {xs:List Value} {g:Nat} {cs:Array Value} {e:TypeId} (h:OwnQ wr base e v xs) (hb:Blk wr g T cs) (hne:e≠T):qBlock v≠some g:=by
 obtain ⟨g',off,cap,cur,rfl,_,hh,_⟩:=h
 intro e
 have e:g' = g:=Option.some.inj e
 subst e
 have:=hh.symm.trans hb
 simp only [Option.some.injEq,Obj.cells.injEq] at this
 exact hne this.2.1
theorem ReaW.call (h:ReaW w wr gS n cs seen xs v) (hb:Below wr.heap.size wr w'):ReaW w w' gS n cs seen xs v :=
 ⟨h.box.below hb h.box.lt,h.seen_.below hb h.seen_.lt,h.que.below hb,h.gS,h.bel.trans (hb.mono h.bel.size),h.first,h.lt⟩
theorem ReaW.mark (h:ReaW w wr gS n cs seen xs v) (z:Nat) (hz:z < n):ReaW w (wr.setCell ⟨gS,z,none⟩ (.bool true)) gS n cs (fun j => if j = z then true else seen j) xs v:=by
 refine ⟨h.box.far (p:=⟨gS,z,none⟩) (fun e => Blk.ne_ h.box h.seen_ (by decide) e) _,?_,h.que.setCell (q_blk h.que h.seen_ (by decide)) _,h.gS,h.bel.setCell (p:=⟨gS,z,none⟩) h.gS _,?_,h.lt⟩
 ·have:=h.seen_.set_ z (.bool true)
  rwa [bV_set _ _ _ _ hz] at this
 ·show (if 0 = z then true else seen 0) = true
  split
  ·rfl
  ·exact h.first
theorem ReaW.push (h:ReaW w wr gS n cs seen xs v) {v':Value} {z:Nat} (hz:z < n) (ho:OwnQ w' w.heap.size 3 v' (qV xs ++ [.int .i64 (z:Int)])) (hg:wr.grownBy w' (qBlock v)):ReaW w w' gS n cs seen (xs ++ [z]) v':=by
 have n1:=q_blk h.que h.box (by decide)
 have n2:=q_blk h.que h.seen_ (by decide)
 refine ⟨h.box.grown hg (fun e => n1 e.symm),h.seen_.grown hg (fun e => n2 e.symm),?_,h.gS,h.bel.grown hg h.bel.size (fun k hk => (h.que.lt k hk).1),h.first,fun y hy => ?_⟩
 ·have e:qV (xs ++ [z]) = qV xs ++ [.int .i64 (z:Int)]:=by unfold qV; simp
  rw [e]; exact ho
 ·rcases List.mem_append.1 hy with hy | hy
  ·exact h.lt y hy
  ·rw [List.mem_singleton] at hy; subst hy; exact hz
end
end Go.Proofs.YtcondkihpmmnnaaGreatDoor
namespace Go.Proofs.YtcondkihpmmnnaaGreatDoor
def cntF (k:Frt) (n:Nat):Nat:=((List.range n).filter k.some).length
theorem cntF_le (k:Frt) (n:Nat):cntF k n≤n:=by
 unfold cntF
 exact Nat.le_trans (List.length_filter_le _ _) (by simp)
theorem filter_more {l:List Nat} (hd:l.Nodup) {p:Nat→Bool} {s:Nat} (hs:s∈l) (hp:p s = false):(l.filter fun j => if j = s then true else p j).length = (l.filter p).length + 1:=by
 have h:=filter_one hd (p:=fun j => if j = s then true else p j) hs (by simp)
 rw [← h]
 congr 2
 apply List.filter_congr
 intro j _
 by_cases e:j = s
 ·simp [e,hp]
 ·simp [e]
theorem cntF_put {k:Frt} {n s:Nat} (f:ByteArray) (hs:s < n):cntF (k.put s f) n = if k.some s = true then cntF k n else cntF k n + 1:=by
 unfold cntF Frt.put
 split
 ·rename_i h
  congr 1
  apply List.filter_congr
  intro j _
  by_cases e:j = s
  ·simp [e,h]
  ·simp [e]
 ·rename_i h
  exact filter_more List.nodup_range (List.mem_range.2 hs) (by simpa using h)
def rankF (k:Frt) (n C:Nat):Nat:=((List.range n).map fun s => if k.some s = true then (k.l s).size + 1 else C).sum
theorem sum_one {l:List Nat} (hd:l.Nodup) {p p':Nat→Nat} {s:Nat} (hs:s∈l) (ho:∀ j,j≠s→p' j = p j) (hp:p' s + 1≤p s):(l.map p').sum + 1≤(l.map p).sum:=by
 induction l with
 | nil => cases hs
 | cons x l ih =>
  rw [List.nodup_cons] at hd
  simp only [List.map_cons,List.sum_cons]
  rcases List.mem_cons.1 hs with rfl | hs'
  ·have:l.map p' = l.map p:=List.map_congr_left fun j hj => ho j fun e => hd.1 (by rw [← e]; exact hj)
   rw [this]; omega
  ·have hne:x≠s:=fun e => hd.1 (by rw [e]; exact hs')
   have:=ih hd.2 hs'
   rw [ho x hne]; omega
theorem rankF_put {k:Frt} {n C s:Nat} {f:ByteArray} (hs:s < n) (h:if k.some s = true then f.size < (k.l s).size else f.size + 1 < C):rankF (k.put s f) n C + 1≤rankF k n C:=by
 unfold rankF
 refine sum_one List.nodup_range (List.mem_range.2 hs) (fun j e => ?_) ?_
 ·unfold Frt.put; simp [e]
 ·unfold Frt.put
  simp only [if_true]
  split at h <;> rename_i h2
  ·rw [if_pos h2]; omega
  ·rw [if_neg h2]; omega
def Told (q:SeqM) (k:Frt) (s:Nat):Prop:=(cand q k s≠[]→k.some s = true)∧(k.some s = true→bl (k.l s) = bl (lcpA (cand q k s)))
structure FroI (q:SeqM) (n:Nat) (k:Frt) (wts:Nat→Bool) (xs:List Nat):Prop where
 ok:FrOk q n k
 bnd:∀ s,(k.l s).size≤4096 * cntF k n
 wt:∀ s,s < n→(wts s = true↔s∈xs)
 nd:xs.Nodup
 lt:∀ s∈xs,s < n
 rest:∀ s,s < n→s ∉ xs→Told q k s
 go:∀ s∈xs,cand q k s≠[]
theorem flatMap_same {α β:Type} {f g:α→List β}:∀ {l:List α},(∀ x∈l,f x = g x)→l.flatMap f = l.flatMap g
 | [],_ => rfl
 | x :: l,h => by
  rw [List.flatMap_cons,List.flatMap_cons,h x List.mem_cons_self,flatMap_same fun y hy => h y (List.mem_cons_of_mem _ hy)]
theorem cand_same {q:SeqM} {k:Frt} {s t:Nat} {f:ByteArray} (h:∀ b,b < 256→0≤q.nx t b→(q.nx t b).toNat≠s):cand q (k.put s f) t = cand q k t:=by
 unfold cand candN
 congr 1
 refine flatMap_same fun b hb => ?_
 have hb:=List.mem_range.1 hb
 unfold candB
 by_cases h0:q.nx t b < 0
 ·rw [if_pos (.inl h0),if_pos (.inl h0)]
 ·have:=h b hb (by omega)
  unfold Frt.put
  simp only [this,if_false]
theorem FroI.skip {q:SeqM} {n:Nat} {k:Frt} {wts:Nat→Bool} {s:Nat} {xs:List Nat} (h:FroI q n k wts (s :: xs)) (h1:k.some s = true) (h2:lcpA (cand q k s) = k.l s):FroI q n k (fun j => if j = s then false else wts j) xs:=by
 have hnd:=List.nodup_cons.1 h.nd
 refine ⟨h.ok,h.bnd,fun t ht => ?_,hnd.2,fun t ht => h.lt t (List.mem_cons_of_mem _ ht),fun t ht hn => ?_,fun t ht => h.go t (List.mem_cons_of_mem _ ht)⟩
 ·by_cases e:t = s
  ·subst e; simp [hnd.1]
  ·rw [if_neg e,h.wt t ht,List.mem_cons]; simp [e]
 ·by_cases e:t = s
  ·subst e; exact ⟨fun _ => h1,fun _ => by rw [h2]⟩
  ·exact h.rest t ht (fun c => (List.mem_cons.1 c).elim e hn)
structure FroJ (q:SeqM) (n:Nat) (k:Frt) (wts:Nat→Bool) (xs:List Nat) (l:List Int):Prop where
 ok:FrOk q n k
 bnd:∀ s,(k.l s).size≤4096 * cntF k n
 wt:∀ s,s < n→(wts s = true↔s∈xs)
 nd:xs.Nodup
 lt:∀ s∈xs,s < n
 rest:∀ s,s < n→s ∉ xs→(s:Int)∈l∨Told q k s
 go:∀ s∈xs,cand q k s≠[]
theorem FroJ.done {q:SeqM} {n:Nat} {k:Frt} {wts:Nat→Bool} {xs:List Nat} (h:FroJ q n k wts xs []):FroI q n k wts xs :=
 ⟨h.ok,h.bnd,h.wt,h.nd,h.lt,fun s hs hn => (h.rest s hs hn).resolve_left (fun c => by cases c),h.go⟩
theorem FroI.size {q:SeqM} {n:Nat} {k:Frt} {wts:Nat→Bool} {s:Nat} {xs:List Nat} (h:FroI q n k wts (s :: xs)) (hck:ckB q = true) (hn:q.next.length = n):∀ x∈cand q k s,x.size≤4096 + 4096 * cntF k n :=
 candN_size hck (by rw [hn]; exact h.lt s List.mem_cons_self) (Nat.le_refl _) h.bnd
theorem FroI.tell {q:SeqM} {n:Nat} {k:Frt} {wts:Nat→Bool} {s:Nat} {xs:List Nat} (h:FroI q n k wts (s :: xs)) (hck:ckB q = true) (hn:q.next.length = n) {l:List Int} (hl:∀ t b,t < n→b < 256→q.nx t b = (s:Int)→(t:Int)∈l) :
    FroJ q n (k.put s (lcpA (cand q k s))) (fun j => if j = s then false else wts j) xs l:=by
 have hnd:=List.nodup_cons.1 h.nd
 have hs:=h.lt s List.mem_cons_self
 have hc:=h.go s List.mem_cons_self
 have hsz:=h.size hck hn
 refine ⟨h.ok.put hs hc,fun t => ?_,fun t ht => ?_,hnd.2,fun t ht => h.lt t (List.mem_cons_of_mem _ ht),fun t ht hnn => ?_,fun t ht e => ?_⟩
 ·have hb:=h.bnd t
  rw [cntF_put _ hs]
  by_cases e:t = s
  ·subst e
   have e2:(k.put t (lcpA (cand q k t))).l t = lcpA (cand q k t):=by unfold Frt.put; simp
   rw [e2]
   split
   ·rename_i h2
    have:=(h.ok.down t h2).2.length_le
    rw [bl_len,bl_len] at this
    omega
   ·have:=lcpA_size hsz
    omega
  ·have e2:(k.put s (lcpA (cand q k s))).l t = k.l t:=by unfold Frt.put; simp [e]
   rw [e2]
   split <;> omega
 ·by_cases e:t = s
  ·subst e; simp [hnd.1]
  ·rw [if_neg e,h.wt t ht,List.mem_cons]; simp [e]
 ·by_cases hin:(t:Int)∈l
  ·exact .inl hin
  ·right
   have hcs:=cand_same (q:=q) (k:=k) (s:=s) (t:=t) (f:=lcpA (cand q k s)) fun b hb h0 e => hin (hl t b ht hb (by omega))
   unfold Told
   rw [hcs]
   by_cases e:t = s
   ·subst e
    unfold Frt.put
    simp
   ·have h3:=h.rest t ht (fun c => (List.mem_cons.1 c).elim e hnn)
    unfold Frt.put
    simp only [e,if_false]
    exact h3
 ·have:=h.go t (List.mem_cons_of_mem _ ht)
  obtain ⟨x,hx⟩:=List.exists_mem_of_ne_nil _ this
  have hf:k.some s = true→bl (lcpA (cand q k s)) <+: bl (k.l s):=fun e => (h.ok.down s e).2
  obtain ⟨y,hy,_⟩:=cand_put hf t x hx
  rw [e] at hy; cases hy
theorem FroJ.pass {q:SeqM} {n:Nat} {k:Frt} {wts:Nat→Bool} {xs:List Nat} {z:Nat} {l:List Int} (h:FroJ q n k wts xs ((z:Int) :: l)) (hz:z < n) (hw:wts z = true):FroJ q n k wts xs l :=
 ⟨h.ok,h.bnd,h.wt,h.nd,h.lt,fun s hs hn => by
  rcases h.rest s hs hn with h2 | h2
  ·rcases List.mem_cons.1 h2 with e | e
   ·have:s = z:=by omega
    subst this
    exact absurd ((h.wt s hs).1 hw) hn
   ·exact .inl e
  ·exact .inr h2,h.go⟩
theorem FroJ.push {q:SeqM} {n:Nat} {k:Frt} {wts:Nat→Bool} {xs:List Nat} {z:Nat} {l:List Int} (h:FroJ q n k wts xs ((z:Int) :: l)) (hz:z < n) (hw:wts z = false) (hc:cand q k z≠[]):FroJ q n k (fun j => if j = z then true else wts j) (xs ++ [z]) l:=by
 have hzx:z ∉ xs:=fun e => by rw [(h.wt z hz).2 e] at hw; cases hw
 refine ⟨h.ok,h.bnd,fun t ht => ?_,?_,fun t ht => ?_,fun t ht hn => ?_,fun t ht => ?_⟩
 ·by_cases e:t = z
  ·simp [e]
  ·rw [if_neg e,h.wt t ht,List.mem_append,List.mem_singleton]; simp [e]
 ·rw [List.nodup_append]
  exact ⟨h.nd,by simp,fun a ha b hb => by rw [List.mem_singleton] at hb; subst hb; exact fun e => hzx (e ▸ ha)⟩
 ·rcases List.mem_append.1 ht with ht | ht
  ·exact h.lt t ht
  ·rw [List.mem_singleton] at ht; subst ht; exact hz
 ·rw [List.mem_append,List.mem_singleton,not_or] at hn
  rcases h.rest t ht hn.1 with h2 | h2
  ·rcases List.mem_cons.1 h2 with e | e
   ·exact absurd (show t = z by omega) hn.2
   ·exact .inl e
  ·exact .inr h2
 ·rcases List.mem_append.1 ht with ht | ht
  ·exact h.go t ht
  ·rw [List.mem_singleton] at ht; subst ht; exact hc
theorem FroI.fronts {q:SeqM} {k:Frt} {wts:Nat→Bool} (h:FroI q q.next.length k wts []) (hck:ckB q = true):Fronts q k :=
 h.ok.fronts (fun s b hs hb => (ckB_nx hck hs hb).2.1) fun s hs => h.rest s hs (fun c => by cases c)
end Go.Proofs.YtcondkihpmmnnaaGreatDoor
namespace Go.Proofs.YtcondkihpmmnnaaGreatDoor
open Go.RowKit Go.Sort
structure BackOk (q:SeqM) (n:Nat) (rows:Nat→List Int) (s b:Nat):Prop where
 sound:∀ z,z < n→∀ x∈rows z,∃ t:Nat,x = (t:Int)∧t < n∧∃ c,c < 256∧q.nx t c = (z:Int)
 full:∀ t c,c < 256→(t < s∨t = s∧c < b)→∀ z,z < n→q.nx t c = (z:Int)→(t:Int)∈rows z
 len:∀ z,(rows z).length≤s * 256 + b
theorem BackOk.start (q:SeqM) (n:Nat):BackOk q n (fun _ => []) 0 0 :=
 ⟨fun _ _ _ h => (by cases h),fun t c _ h => (by omega),fun _ => Nat.zero_le _⟩
theorem BackOk.next {q:SeqM} {n:Nat} {rows:Nat→List Int} {s:Nat} (h:BackOk q n rows s 256):BackOk q n rows (s + 1) 0 :=
 ⟨h.sound,fun t c hc ht => h.full t c hc (by omega),fun z => by have:=h.len z; omega⟩
theorem BackOk.pass {q:SeqM} {n:Nat} {rows:Nat→List Int} {s b:Nat} (h:BackOk q n rows s b) (hp:∀ z,z < n→q.nx s b = (z:Int)→(s:Int)∈rows z):BackOk q n rows s (b + 1) :=
 ⟨h.sound,fun t c hc ht z hz e => by
  by_cases e2:t = s∧c = b
  ·obtain ⟨rfl,rfl⟩:=e2; exact hp z hz e
  ·exact h.full t c hc (by omega) z hz e,fun z => by have:=h.len z; omega⟩
theorem BackOk.put {q:SeqM} {n:Nat} {rows:Nat→List Int} {s b z:Nat} (h:BackOk q n rows s b) (hs:s < n) (hb:b < 256) (hz:q.nx s b = (z:Int)):BackOk q n (fun t => if t = z then rows z ++ [(s:Int)] else rows t) s (b + 1):=by
 refine ⟨fun y hy x hx => ?_,fun t c hc ht y hy e => ?_,fun y => ?_⟩
 ·by_cases e:y = z
  ·subst e
   rw [if_pos rfl] at hx
   rcases List.mem_append.1 hx with hx | hx
   ·exact h.sound y hy x hx
   ·rw [List.mem_singleton] at hx
    exact ⟨s,hx,hs,b,hb,hz⟩
  ·rw [if_neg e] at hx; exact h.sound y hy x hx
 ·by_cases e2:t = s∧c = b
  ·obtain ⟨rfl,rfl⟩:=e2
   have:y = z:=by omega
   rw [if_pos this]; simp
  ·have:=h.full t c hc (by omega) y hy e
   by_cases e3:y = z
   ·rw [if_pos e3,← e3]; exact List.mem_append_left _ this
   ·rw [if_neg e3]; exact this
 ·have:=h.len y
  by_cases e:y = z
  ·rw [if_pos e,List.length_append,List.length_singleton,← e]; omega
  ·rw [if_neg e]; omega
structure BakW (w wr:World) (LB n:Nat) (cs:Array Value) (vs:List Value) (rows:Nat→List Int):Prop where
 box:Blk wr w.heap.size 27 cs
 grp:Grp encI 1 wr w.heap.size LB n 55 3 vs rows
 bel:Below w.heap.size w wr
section
variable {w wr w':World} {LB n:Nat} {cs:Array Value} {vs:List Value} {rows:Nat→List Int}
theorem BakW.call (h:BakW w wr LB n cs vs rows) (hb:Below wr.heap.size wr w'):BakW w w' LB n cs vs rows :=
 ⟨h.box.below hb h.box.lt,h.grp.call hb,h.bel.trans (hb.mono h.bel.size)⟩
theorem BakW.put (h:BakW w wr LB n cs vs rows) (s:Nat) (hs:s < n) {v':Value} (x:Int) (hg:wr.grownBy w' (vs.getD s nilV).ownBlock) (ho:w'.ownsRow w.heap.size 3 1 v' ((rows s).length + 1) (encs encI (rows s) ++ encI x)) (hl:v'.ownBlock = (vs.getD s nilV).ownBlock∨v'.ownBlock = some wr.heap.size) :
    BakW w (w'.setCell ⟨LB,s,none⟩ v') LB n cs (vs.set s v') (fun t => if t = s then rows s ++ [x] else rows t):=by
 have hr:=h.grp.row s hs
 have hL:=own_lt h.grp.own LB rfl
 exact ⟨(blk_keep h.box hg (own_blk hr h.box (by decide))).far (p:=⟨LB,s,none⟩) (fun e => own_blk h.grp.own h.box (by decide) (by rw [e]; rfl)) _,h.grp.put (by decide) s hs x hg ho hl,
  (h.bel.grown hg h.bel.size (fun k hk => (own_lt hr k hk).1)).setCell (p:=⟨LB,s,none⟩) hL.1 _⟩
end
end Go.Proofs.YtcondkihpmmnnaaGreatDoor
namespace Go.Proofs.YtcondkihpmmnnaaGreatDoor
open Go.RowKit Go.Sort
theorem maker_nil {Q:Exit→Act→World→Prop} {base:Act} {w:World} {ds:List Tmp} {o:Oper} {d:Tmp} (hd:o.dst = some d) (hg:o.guard = none) (hop:o.op = Op.buildSlice 55 0 #[]) :
    Maker Tryz.prog Q base w ds o d (fun v W => ∃ g,v = .slice (some ⟨g,0,none⟩) 0 0∧w.heap.size≤g∧Blk W g 3 #[]):=by
 refine ⟨hd,hg,?_,?_⟩
 ·rintro v W W' ⟨g,rfl,hgz,ho⟩ hb
  exact ⟨g,rfl,hgz,ho.below hb ho.lt⟩
 ·intro act W K hag hb hK
  have hres:K (act.put (some d) (.slice (some ⟨W.heap.size,0,none⟩) 0 0)) (W.alloc (.cells #[] 3)):=hK _ _ ((Below.refl _ W).alloc (Nat.le_refl _) _) ⟨W.heap.size,rfl,hb.size,Blk.new W _ _⟩
  unfold Oper.wp
  simp only [execOp,hop]
  simp [go_sem]
  rw [hd]
  exact hres
structure FroW (W0 wr:World) (gL gM gW n:Nat) (k:Frt) (wts:Nat→Bool) (xs:List Nat) (v:Value):Prop where
 l:Blk wr gL 9 (kL k n).toArray
 m:Blk wr gM 4 (bV k.some n)
 w:Blk wr gW 4 (bV wts n)
 que:OwnQ wr W0.heap.size 3 v (qV xs)
 ne:gM≠gW
 bL:W0.heap.size≤gL
 bM:W0.heap.size≤gM
 bW:W0.heap.size≤gW
 bel:Below W0.heap.size W0 wr
section
variable {W0 wr w':World} {gL gM gW n:Nat} {k:Frt} {wts:Nat→Bool} {xs:List Nat} {v:Value}
theorem FroW.call (h:FroW W0 wr gL gM gW n k wts xs v) (hb:Below wr.heap.size wr w'):FroW W0 w' gL gM gW n k wts xs v :=
 ⟨h.l.below hb h.l.lt,h.m.below hb h.m.lt,h.w.below hb h.w.lt,h.que.below hb,h.ne,h.bL,h.bM,h.bW,h.bel.trans (hb.mono h.bel.size)⟩
theorem FroW.wait (h:FroW W0 wr gL gM gW n k wts xs v) (z:Nat) (hz:z < n) (b:Bool):FroW W0 (wr.setCell ⟨gW,z,none⟩ (.bool b)) gL gM gW n k (fun j => if j = z then b else wts j) xs v:=by
 refine ⟨h.l.far (p:=⟨gW,z,none⟩) (fun e => Blk.ne_ h.l h.w (by decide) e) _,h.m.far (p:=⟨gW,z,none⟩) h.ne _,?_,h.que.setCell (q_blk h.que h.w (by decide)) _,h.ne,h.bL,h.bM,h.bW,h.bel.setCell (p:=⟨gW,z,none⟩) h.bW _⟩
 have:=h.w.set_ z (.bool b)
 rwa [bV_set _ _ _ _ hz] at this
theorem kL_set (k:Frt) (n s:Nat) (f:ByteArray) (hs:s < n):(kL k n).toArray.setIfInBounds s (.string f) = (kL (k.put s f) n).toArray:=by
 unfold kL
 rw [List.setIfInBounds_toArray,rowV_set _ _ _ _ hs]
 congr 1
 unfold rowV
 apply List.map_congr_left
 intro j _
 unfold Frt.put
 show (if j = s then Value.string f else .string (k.l j)) = .string (if j = s then f else k.l j)
 split <;> rfl
theorem FroW.tell (h:FroW W0 wr gL gM gW n k wts xs v) (s:Nat) (hs:s < n) (f:ByteArray):FroW W0 ((wr.setCell ⟨gL,s,none⟩ (.string f)).setCell ⟨gM,s,none⟩ (.bool true)) gL gM gW n (k.put s f) wts xs v:=by
 have n1:gL≠gM:=Blk.ne_ h.l h.m (by decide)
 have n2:gL≠gW:=Blk.ne_ h.l h.w (by decide)
 refine ⟨?_,?_,((h.w.far (p:=⟨gL,s,none⟩) n2.symm _).far (p:=⟨gM,s,none⟩) h.ne.symm _),(h.que.setCell (p:=⟨gL,s,none⟩) (q_blk h.que h.l (by decide)) _).setCell (p:=⟨gM,s,none⟩) (q_blk h.que h.m (by decide)) _,h.ne,h.bL,h.bM,h.bW,(h.bel.setCell (p:=⟨gL,s,none⟩) h.bL _).setCell (p:=⟨gM,s,none⟩) h.bM _⟩
 ·have:=h.l.set_ s (.string f)
  rw [kL_set _ _ _ _ hs] at this
  exact this.far (p:=⟨gM,s,none⟩) n1 _
 ·have:=(h.m.far (p:=⟨gL,s,none⟩) n1.symm (.string f)).set_ s (.bool true)
  rwa [bV_set _ _ _ _ hs] at this
theorem FroW.push (h:FroW W0 wr gL gM gW n k wts xs v) {v':Value} {z:Nat} (ho:OwnQ w' W0.heap.size 3 v' (qV xs ++ [.int .i64 (z:Int)])) (hg:wr.grownBy w' (qBlock v)):FroW W0 w' gL gM gW n k wts (xs ++ [z]) v':=by
 have n1:=q_blk h.que h.l (by decide)
 have n2:=q_blk h.que h.m (by decide)
 have n3:=q_blk h.que h.w (by decide)
 refine ⟨h.l.grown hg (fun e => n1 e.symm),h.m.grown hg (fun e => n2 e.symm),h.w.grown hg (fun e => n3 e.symm),?_,h.ne,h.bL,h.bM,h.bW,h.bel.grown hg h.bel.size (fun k hk => (h.que.lt k hk).1)⟩
 have e:qV (xs ++ [z]) = qV xs ++ [.int .i64 (z:Int)]:=by unfold qV; simp
 rw [e]; exact ho
def rankW (w:World) (gL gM n C:Nat):Nat:=((List.range n).map fun s => match w.cell? ⟨gM,s,none⟩ with
 | some (.bool true) => (match w.cell? ⟨gL,s,none⟩ with | some (.string x) => x.size + 1 | _ => 0)
 | _ => C).sum
theorem FroW.rank (h:FroW W0 wr gL gM gW n k wts xs v) (C:Nat):rankW wr gL gM n C = rankF k n C:=by
 unfold rankW rankF
 congr 1
 apply List.map_congr_left
 intro s hs
 have hs:=List.mem_range.1 hs
 rw [h.m.cell,bV_at _ hs,h.l.cell]
 have:(kL k n).toArray[s]? = some (.string (k.l s)):=by unfold kL; rw [List.getElem?_toArray,rowV_at _ hs]
 rw [this]
 cases k.some s <;> rfl
end
def endsQ (q:SeqM) (j:Nat):List Nat:=(List.range j).filter q.en
theorem endsQ_next (q:SeqM) (j:Nat):endsQ q (j + 1) = endsQ q j ++ if q.en j = true then [j] else []:=by
 unfold endsQ
 rw [List.range_succ,List.filter_append]
 congr 1
 split
 ·rename_i h; rw [List.filter_cons_of_pos h]; rfl
 ·rename_i h; rw [List.filter_cons_of_neg h]; rfl
def k0F:Frt:=⟨fun _ => ByteArray.empty,fun _ => false⟩
theorem cand_k0 (q:SeqM) (s:Nat):cand q k0F s = candE q s:=by
 unfold cand candN
 have:(List.range 256).flatMap (candB q k0F s) = []:=by
  rw [List.flatMap_eq_nil_iff]
  intro b _
  unfold candB
  rw [if_pos (.inr rfl)]
 rw [this,List.append_nil]
theorem fro_start {q:SeqM} {n:Nat} {wts:Nat→Bool} (h:∀ s,s < n→(wts s = true↔s∈endsQ q n)):FroI q n k0F wts (endsQ q n):=by
 refine ⟨FrOk.start q n,fun s => by show (0:Nat)≤_; omega,h,List.Nodup.sublist List.filter_sublist List.nodup_range,fun s hs => ?_,fun s hs hn => ?_,fun s hs => ?_⟩
 ·exact List.mem_range.1 (List.mem_filter.1 hs).1
 ·have he:q.en s = false:=by
    rcases e:q.en s with _ | _
    ·rfl
    ·exact absurd (List.mem_filter.2 ⟨List.mem_range.2 hs,e⟩) hn
  refine ⟨fun h => ?_,fun h => by cases h⟩
  rw [cand_k0] at h
  unfold candE at h
  rw [he] at h
  exact absurd rfl h
 ·rw [cand_k0]
  unfold candE
  rw [if_pos (List.mem_filter.1 hs).2]
  exact List.cons_ne_nil _ _
end Go.Proofs.YtcondkihpmmnnaaGreatDoor
