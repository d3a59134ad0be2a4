/- Lemmas, part 39 of 50. No condition. -/
import Derived.Test.YtcondkihpmmnnaaGreatDoorQ36
import Derived.Test.YtcondkihpmmnnaaGreatDoorQ31
namespace Go.Proofs.YtcondkihpmmnnaaGreatDoor
structure OrdI (q:SeqM) (n c:Nat) (m:Nat→Nat) (xs:List Nat) (pl:Nat→Int) (i b:Nat):Prop where
 first:xs[0]? = some 0
 lt:∀ j s:Nat,xs[j]? = some s→s < n∧pl (m s) = (j:Int)
 plc:∀ p,p < c→pl p = -1∨∃ j s:Nat,xs[j]? = some s∧m s = p∧pl p = (j:Int)
 done:∀ j s b':Nat,xs[j]? = some s→b' < 256→(j < i∨j = i∧b' < b)→0≤q.nx s b'→0≤pl (m (q.nx s b').toNat)
 ord:∀ k s:Nat,0 < k→xs[k]? = some s→∃ j t b':Nat,xs[j]? = some t∧j < k∧(j < i∨j = i∧b' < b)∧b' < 256∧0≤q.nx t b'∧pl (m (q.nx t b').toNat) = (k:Int) ∧
  ∀ j' t' b'':Nat,xs[j']? = some t'→b'' < 256→(j' < j∨j' = j∧b'' < b')→0≤q.nx t' b''→pl (m (q.nx t' b'').toNat) < (k:Int)
theorem some_lt {α:Type} {l:List α} {i:Nat} {x:α} (h:l[i]? = some x):i < l.length:=by
 rcases Nat.lt_or_ge i l.length with e | e
 ·exact e
 ·rw [List.getElem?_eq_none e] at h; cases h
theorem snoc_some {l:List Nat} {z i x:Nat} (h:(l ++ [z])[i]? = some x):l[i]? = some x∨(i = l.length∧x = z):=by
 rcases Nat.lt_trichotomy i l.length with e | e | e
 ·rw [List.getElem?_append_left e] at h; exact .inl h
 ·rw [List.getElem?_append_right (by omega),e] at h
  simp at h
  exact .inr ⟨e,h.symm⟩
 ·rw [List.getElem?_eq_none (by simp; omega)] at h; cases h
section
variable {q:SeqM} {n c:Nat} {m:Nat→Nat} {xs:List Nat} {pl:Nat→Int} {i b:Nat}
theorem OrdI.start (_hm0:m 0 < c) (hn:0 < n):OrdI q n c m [0] (fun p => if p = m 0 then 0 else -1) 0 0:=by
 refine ⟨rfl,fun j s h => ?_,fun p hp => ?_,fun j s b' h hb hl => ?_,fun k s hk h => ?_⟩
 ·have:=some_lt h
  have e:j = 0:=by simp at this; exact this
  subst e
  have e2:s = 0:=by simpa using h.symm
  subst e2
  exact ⟨hn,by simp⟩
 ·by_cases e:p = m 0
  ·right; exact ⟨0,0,rfl,e.symm,by simp [e]⟩
  ·left; simp [e]
 ·omega
 ·have:=some_lt h
  simp at this; omega
theorem OrdI.mono (h:OrdI q n c m xs pl i b) {i' b':Nat} (hle:∀ j b'',b'' < 256→(j < i∨j = i∧b'' < b)→(j < i'∨j = i'∧b'' < b'))
    (hd:∀ j s b'':Nat,xs[j]? = some s→b'' < 256→(j < i'∨j = i'∧b'' < b')→¬ (j < i∨j = i∧b'' < b)→0≤q.nx s b''→0≤pl (m (q.nx s b'').toNat)):OrdI q n c m xs pl i' b':=by
 refine ⟨h.first,h.lt,h.plc,fun j s b'' hj hb hl h0 => ?_,fun k s hk hs => ?_⟩
 ·by_cases e:j < i∨j = i∧b'' < b
  ·exact h.done j s b'' hj hb e h0
  ·exact hd j s b'' hj hb hl e h0
 ·obtain ⟨j,t,b1,h1,h2,h3,h4,h5⟩:=h.ord k s hk hs
  exact ⟨j,t,b1,h1,h2,hle j b1 h4 h3,h4,h5⟩
theorem OrdI.next (h:OrdI q n c m xs pl i 256):OrdI q n c m xs pl (i + 1) 0 :=
 h.mono (fun j b'' hb hl => by omega) fun j s b'' _ hb hl hn => by omega
theorem OrdI.pass (h:OrdI q n c m xs pl i b) {s:Nat} (hs:xs[i]? = some s) (hp:0≤q.nx s b→0≤pl (m (q.nx s b).toNat)):OrdI q n c m xs pl i (b + 1):=by
 refine h.mono (fun j b'' hb hl => by omega) fun j t b'' ht hb hl hn h0 => ?_
 have e1:j = i:=by omega
 have e2:b'' = b:=by omega
 subst e1 e2
 rw [hs] at ht
 obtain rfl:=Option.some.inj ht
 exact hp h0
theorem OrdI.put (h:OrdI q n c m xs pl i b) {s z:Nat} (hs:xs[i]? = some s) (hb:b < 256) (hz:q.nx s b = (z:Int)) (hzn:z < n) (hpz:pl (m z) < 0) (hcl:∀ t b:Nat,t < n→b < 256→0≤q.nx t b→m (q.nx t b).toNat < c) :
    OrdI q n c m (xs ++ [z]) (fun p => if p = m z then (xs.length:Int) else pl p) i (b + 1):=by
 have hil:=some_lt hs
 have hold:∀ j t:Nat,xs[j]? = some t→m t≠m z:=fun j t ht e => by
  have:=(h.lt j t ht).2
  rw [e] at this; omega
 refine ⟨?_,fun j t hj => ?_,fun p hp => ?_,fun j t b' hj hb' hl h0 => ?_,fun k t hk ht => ?_⟩
 ·rw [List.getElem?_append_left (by omega)]; exact h.first
 ·rcases snoc_some hj with hj | ⟨rfl,rfl⟩
  ·refine ⟨(h.lt j t hj).1,?_⟩
   rw [if_neg (hold j t hj)]
   exact (h.lt j t hj).2
  ·exact ⟨hzn,by simp⟩
 ·by_cases e:p = m z
  ·right
   exact ⟨xs.length,z,by simp,e.symm,by simp [e]⟩
  ·rcases h.plc p hp with h1 | ⟨j,t,h1,h2,h3⟩
   ·left; rw [if_neg e]; exact h1
   ·right
    exact ⟨j,t,by rw [List.getElem?_append_left (some_lt h1)]; exact h1,h2,by rw [if_neg e]; exact h3⟩
 ·by_cases e:m (q.nx t b').toNat = m z
  ·simp only [e,if_true]; omega
  ·simp only [e,if_false]
   rcases snoc_some hj with hj | ⟨rfl,rfl⟩
   ·by_cases e2:j < i∨j = i∧b' < b
    ·exact h.done j t b' hj hb' e2 h0
    ·have e3:j = i:=by omega
     have e4:b' = b:=by omega
     subst e3 e4
     rw [hs] at hj
     obtain rfl:=Option.some.inj hj
     rw [hz,Int.toNat_natCast] at e
     exact absurd rfl e
   ·omega
 ·rcases snoc_some ht with ht | ⟨rfl,htz⟩
  ·obtain ⟨j,u,b1,h1,h2,h3,h4,h5,h6,h7⟩:=h.ord k t hk ht
   refine ⟨j,u,b1,by rw [List.getElem?_append_left (some_lt h1)]; exact h1,h2,by omega,h4,h5,?_,fun j' t' b'' hj' hb'' hl' h0 => ?_⟩
   ·have e:m (q.nx u b1).toNat≠m z:=fun e => by rw [e] at h6; omega
    rw [if_neg e]; exact h6
   ·rcases snoc_some hj' with hj' | ⟨rfl,rfl⟩
    ·have hd:=h.done j' t' b'' hj' hb'' (by omega) h0
     have e:m (q.nx t' b'').toNat≠m z:=fun e => by rw [e] at hd; omega
     rw [if_neg e]
     exact h7 j' t' b'' hj' hb'' hl' h0
    ·have:=some_lt h1
     omega
  ·refine ⟨i,s,b,by rw [List.getElem?_append_left hil]; exact hs,hil,by omega,hb,by omega,?_,fun j' t' b'' hj' hb'' hl' h0 => ?_⟩
   ·rw [hz,Int.toNat_natCast,if_pos rfl]
   ·rcases snoc_some hj' with hj' | ⟨rfl,rfl⟩
    ·have hd:=h.done j' t' b'' hj' hb'' hl' h0
     have e:m (q.nx t' b'').toNat≠m z:=fun e => by rw [e] at hd; omega
     rw [if_neg e]
     rcases h.plc _ (hcl t' b'' (h.lt j' t' hj').1 hb'' h0) with h1 | ⟨j,t,h1,h2,h3⟩
     ·omega
     ·have:=some_lt h1; omega
    ·omega
theorem OrdI.len (h:OrdI q n c m xs pl i b) (hm:∀ s,s < n→m s < c):xs.length≤c:=by
 have hnd:(xs.map m).Nodup:=by
  unfold List.Nodup
  rw [List.pairwise_iff_getElem]
  intro j k hj hk hjk e
  rw [List.length_map] at hj hk
  rw [List.getElem_map,List.getElem_map] at e
  have h1:=(h.lt j _ (List.getElem?_eq_getElem (show j < xs.length by omega))).2
  have h2:=(h.lt k _ (List.getElem?_eq_getElem hk)).2
  rw [e] at h1; omega
 have hsub:xs.map m ⊆ List.range c:=fun p hp => by
  obtain ⟨s,hs,rfl⟩:=List.mem_map.1 hp
  obtain ⟨j,hj⟩:=List.getElem?_of_mem hs
  exact List.mem_range.2 (hm s (h.lt j s hj).1)
 have:=hnd.length_le_of_subset hsub
 simpa using this
end
def minRow (q:SeqM) (m:Nat→Nat) (pl:Nat→Int) (s b:Nat):Int:=if q.nx s b < 0 then q.nx s b else pl (m (q.nx s b).toNat)
def minM (q:SeqM) (m:Nat→Nat) (pl:Nat→Int) (xs:List Nat):SeqM :=
 ⟨q.front,xs.map (fun s => (List.range 256).map (minRow q m pl s)),xs.map (fun s => q.outs.getD s []),xs.map q.en,xs.map q.tl⟩
theorem getD_mapR {α:Type} (g:Nat→α) (d:α) {n b:Nat} (hb:b < n):((List.range n).map g).getD b d = g b:=by
 rw [List.getD_eq_getElem?_getD,List.getElem?_map,List.getElem?_range hb]; rfl
theorem getD_mapA {α:Type} (g:Nat→α) (d:α) {us:List Nat} {i s:Nat} (h:us[i]? = some s):(us.map g).getD i d = g s:=by
 rw [List.getD_eq_getElem?_getD,List.getElem?_map,h]; rfl
section
variable {q:SeqM} {n c:Nat} {m:Nat→Nat} {xs:List Nat} {pl:Nat→Int} {i s b:Nat}
theorem minM_nx (h:xs[i]? = some s) (hb:b < 256):(minM q m pl xs).nx i b = minRow q m pl s b:=by
 unfold SeqM.nx minM
 simp only
 rw [getD_mapA (fun s => (List.range 256).map (minRow q m pl s)) [] h]
 exact getD_mapR _ _ hb
theorem minM_os (h:xs[i]? = some s):(minM q m pl xs).os i b = q.os s b:=by
 unfold SeqM.os minM
 simp only
 rw [getD_mapA (fun s => q.outs.getD s []) [] h]
theorem minM_en (h:xs[i]? = some s):(minM q m pl xs).en i = q.en s:=by
 unfold SeqM.en minM
 simp only
 exact getD_mapA q.en false h
theorem minM_tl (h:xs[i]? = some s):(minM q m pl xs).tl i = q.tl s:=by
 unfold SeqM.tl minM
 simp only
 exact getD_mapA q.tl _ h
theorem minM_len:(minM q m pl xs).next.length = xs.length:=by unfold minM; simp
section
variable (hck:ckB q = true) (hn:q.next.length = n) (hP:PartsOk q n m c) (hO:OrdI q n c m xs pl xs.length 0)
include hck hn hP hO
theorem min_step (hi:xs[i]? = some s) (hb:b < 256) (h0:0≤q.nx s b):∃ j t:Nat,xs[j]? = some t∧pl (m (q.nx s b).toNat) = (j:Int)∧SameOn q t (q.nx s b).toNat:=by
 have hs:=(hO.lt i s hi).1
 have hz:=(ckB_nx hck (s:=s) (by rw [hn]; exact hs) hb).2.1
 rw [hn] at hz
 have hd:=hO.done i s b hi hb (.inl (some_lt hi)) h0
 rcases hO.plc _ (hP.lt (q.nx s b).toNat (by omega)) with h1 | ⟨j,t,h1,h2,h3⟩
 ·omega
 ·exact ⟨j,t,h1,h3,(hP.eq t _ (hO.lt j t h1).1 (by omega)).1 h2⟩
theorem min_runL:∀ (w:List UInt8) (i s:Nat),xs[i]? = some s→(minM q m pl xs).runL i w = q.runL s w
 | [],i,s,hi => by
  unfold SeqM.runL
  rw [minM_en hi,minM_tl hi]
 | a :: w,i,s,hi => by
  unfold SeqM.runL
  rw [minM_nx hi a.toNat_lt,minM_os hi]
  unfold minRow
  by_cases h0:q.nx s a.toNat < 0
  ·rw [if_pos h0,if_pos h0,if_pos h0]
  ·obtain ⟨j,t,h1,h2,h3⟩:=min_step hck hn hP hO hi a.toNat_lt (by omega)
   rw [if_neg h0,if_neg h0,h2,if_neg (by omega),Int.toNat_natCast,min_runL w j t h1,h3 w]
theorem min_run (w:List UInt8):(minM q m pl xs).run w = q.run w:=by
 have h1:=some_lt hO.first
 have h2:=(hO.lt 0 0 hO.first).1
 unfold SeqM.run
 rw [minM_len,if_neg (by omega),if_neg (by omega),min_runL hck hn hP hO w 0 0 hO.first]
 rfl
theorem min_canon (hT:Tight q):Canon (minM q m pl xs):=by
 obtain ⟨p1,p2,p3,p4,p5,p6⟩:=ck_parts hck
 have hlen:=hO.len hP.lt
 have hg:∀ i,i < (minM q m pl xs).next.length→∃ s,xs[i]? = some s∧s < n:=fun i hi => by
  rw [minM_len] at hi
  have:=List.getElem?_eq_getElem hi
  exact ⟨_,this,(hO.lt i _ this).1⟩
 have hnx:∀ i b,i < (minM q m pl xs).next.length→b < 256→(minM q m pl xs).nx i b < ((minM q m pl xs).next.length:Int):=fun i b hi hb => by
  obtain ⟨s,hs,hsn⟩:=hg i hi
  rw [minM_nx hs hb,minM_len]
  unfold minRow
  split
  ·omega
  ·obtain ⟨j,t,h1,h2,_⟩:=min_step hck hn hP hO hs hb (by omega)
   have:=some_lt h1
   omega
 refine ⟨⟨fun i hi => ?_,fun i hi u hu => ?_,hnx⟩,by rw [minM_len]; exact some_lt hO.first,by unfold minM; simp,fun i hi => ?_,fun i b hi hb h0 => ?_,fun i hi he => ?_,fun i j hi hj h => ?_,fun i h0 hi => ?_⟩
 ·obtain ⟨s,hs,hsn⟩:=hg i hi
  obtain ⟨o,w,ho⟩:=hT.live s (by omega)
  exact ⟨o,w,by rw [min_runL hck hn hP hO w i s hs]; exact ho⟩
 ·obtain ⟨s,hs,hsn⟩:=hg i hi
  exact hT.none s (by omega) u fun o ⟨w,ho⟩ => hu o ⟨w,by rw [min_runL hck hn hP hO w i s hs]; exact ho⟩
 ·obtain ⟨s,hs,hsn⟩:=hg i hi
  unfold minM
  simp only
  rw [getD_mapA _ [] hs,getD_mapA _ [] hs]
  exact ⟨by simp,(p6 s (by omega)).2⟩
 ·obtain ⟨s,hs,hsn⟩:=hg i hi
  rw [minM_nx hs hb] at h0 ⊢
  rw [minM_os hs]
  have hz:=ckB_nx hck (s:=s) (by rw [hn]; exact hsn) hb
  unfold minRow at h0 ⊢
  by_cases e:q.nx s b < 0
  ·rw [if_pos e]
   exact ⟨by omega,hz.2.2.2.1 (by omega)⟩
  ·obtain ⟨j,t,h1,h2,_⟩:=min_step hck hn hP hO hs hb (by omega)
   rw [if_neg e,h2] at h0; omega
 ·obtain ⟨s,hs,hsn⟩:=hg i hi
  rw [minM_en hs] at he
  rw [minM_tl hs]
  exact (ckB_nx hck (s:=s) (b:=0) (by rw [hn]; exact hsn) (by decide)).2.2.2.2.2 he
 ·obtain ⟨s,hs,hsn⟩:=hg i hi
  obtain ⟨t,ht,htn⟩:=hg j hj
  have:m s = m t:=(hP.eq s t hsn htn).2 fun w => by rw [← min_runL hck hn hP hO w i s hs,← min_runL hck hn hP hO w j t ht]; exact h w
  have h1:=(hO.lt i s hs).2
  have h2:=(hO.lt j t ht).2
  rw [this] at h1; omega
 ·obtain ⟨s,hs,hsn⟩:=hg i hi
  obtain ⟨j,t,b,h1,h2,_,h4,h5,h6,h7⟩:=hO.ord i s h0 hs
  refine ⟨j,b,h2,h4,?_,fun j' b' hb' hl => ?_⟩
  ·rw [minM_nx h1 h4]
   unfold minRow
   rw [if_neg (by omega)]; exact h6
  ·have hj':j' < (minM q m pl xs).next.length:=by omega
   obtain ⟨t',ht',_⟩:=hg j' hj'
   rw [minM_nx ht' hb']
   unfold minRow
   split
   ·omega
   ·exact h7 j' t' b' ht' hb' hl (by omega)
theorem min_small:xs.length≤n∧∀ i,i < xs.length→((minM q m pl xs).tail.getD i ByteArray.empty).size≤4096∧((minM q m pl xs).next.getD i []).length = 256∧((minM q m pl xs).outs.getD i []).length = 256 ∧
    ∀ b,b < 256→-1≤((minM q m pl xs).next.getD i []).getD b 0∧((minM q m pl xs).next.getD i []).getD b 0 < (xs.length:Int)∧(((minM q m pl xs).outs.getD i []).getD b ByteArray.empty).size≤4096:=by
 obtain ⟨p1,p2,p3,p4,p5,p6⟩:=ck_parts hck
 refine ⟨Nat.le_trans (hO.len hP.lt) (onto_le hP.onto),fun i hi => ?_⟩
 have hs:=List.getElem?_eq_getElem hi
 generalize xs[i] = s at hs
 have hsn:=(hO.lt i s hs).1
 refine ⟨?_,?_,?_,fun b hb => ?_⟩
 ·have:=minM_tl (q:=q) (m:=m) (pl:=pl) hs
  show ((minM q m pl xs).tl i).size≤4096
  rw [this]
  exact (ckB_nx hck (s:=s) (b:=0) (by rw [hn]; exact hsn) (by decide)).2.2.2.2.1
 ·unfold minM
  simp only
  rw [getD_mapA _ [] hs]; simp
 ·unfold minM
  simp only
  rw [getD_mapA _ [] hs]
  exact (p6 s (by omega)).2
 ·have hz:=ckB_nx hck (s:=s) (by rw [hn]; exact hsn) hb
  have e1:((minM q m pl xs).next.getD i []).getD b 0 = minRow q m pl s b:=minM_nx hs hb
  have e2:((minM q m pl xs).outs.getD i []).getD b ByteArray.empty = q.os s b:=minM_os hs
  rw [e1,e2]
  refine ⟨?_,?_,hz.2.2.1⟩
  ·unfold minRow
   split
   ·omega
   ·obtain ⟨j,t,h1,h2,_⟩:=min_step hck hn hP hO hs hb (by omega)
    omega
  ·unfold minRow
   split
   ·omega
   ·obtain ⟨j,t,h1,h2,_⟩:=min_step hck hn hP hO hs hb (by omega)
    have:=some_lt h1
    omega
end
end
end Go.Proofs.YtcondkihpmmnnaaGreatDoor
