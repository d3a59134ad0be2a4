/- Lemmas, part 11 of 50. No condition. -/
import Derived.Test.YtcondkihpmmnnaaGreatDoorQ10
import Derived.Test.YtcondkihpmmnnaaGreatDoorQ08
namespace Go.Proofs.YtcondkihpmmnnaaGreatDoor
open Go.RowKit Go.Sort
abbrev nilV:Value:=.slice none 0 0
theorem own_setAt {w:World} {base:Nat} {e:TypeId} {L n c:Nat} {xs:List Value} (h:w.ownsRow base e 1 (.slice (some ⟨L,0,none⟩) n c) n xs) (s:Nat) (_hs:s < n) (v:Value) :
    (w.setCell ⟨L,s,none⟩ v).ownsRow base e 1 (.slice (some ⟨L,0,none⟩) n c) n (xs.set s v):=by
 obtain ⟨hl,h | ⟨g,cap,cur,hv,hb,hh,hc,hm,hsz,ht⟩⟩:=h
 ·obtain ⟨h,_⟩:=h; cases h
 ·injection hv with hv1 _ hv2
  have hg:=Option.some.inj hv1
  injection hg with hg
  subst hg hv2
  refine ⟨by rw [List.length_set]; exact hl,.inr ⟨L,c,cur.setIfInBounds s v,rfl,hb,?_,hc,hm,by simpa using hsz,?_⟩⟩
  ·simp [World.setCell,Array.getElem?_modify,hh]
  ·rw [← ht,Array.toList_setIfInBounds,List.take_set]
theorem own_cellAt {w:World} {base:Nat} {e:TypeId} {L n c:Nat} {xs:List Value} (h:w.ownsRow base e 1 (.slice (some ⟨L,0,none⟩) n c) n xs) (s:Nat) (hs:s < n) (d:Value):w.cell? ⟨L,s,none⟩ = some (xs.getD s d):=by
 have hl:=h.1
 have:=h.cells (g:=L) rfl s (xs.getD s d) (by rw [List.getD_eq_getElem?_getD,List.getElem?_eq_getElem (by omega)]; rfl)
 rw [add_mk,Nat.zero_add] at this; exact this
theorem own_frozenAt {w:World} {base:Nat} {e:TypeId} {L n c:Nat} {xs:List Value} (h:w.ownsRow base e 1 (.slice (some ⟨L,0,none⟩) n c) n xs) (s:Nat):w.frozen? ⟨L,s,none⟩ = false:=by
 obtain ⟨_,h | ⟨g,cap,cur,hv,_,hh,_⟩⟩:=h
 ·obtain ⟨h,_⟩:=h; cases h
 ·injection hv with hv1 _ _
  have hg:=Option.some.inj hv1
  injection hg with hg
  subst hg
  simp [World.frozen?,hh]
structure Grp {α:Type} (enc:α→List Value) (k:Nat) (w:World) (base L n:Nat) (eL e:TypeId) (vs:List Value) (rows:Nat→List α):Prop where
 own:w.ownsRow base eL 1 (.slice (some ⟨L,0,none⟩) n n) n vs
 row:∀ s,s < n→w.ownsRow base e k (vs.getD s nilV) (rows s).length (encs enc (rows s))
 ap:∀ s s',s < n→s' < n→s≠s'→Apart (vs.getD s nilV) (vs.getD s' nilV)
section
variable {α:Type} {enc:α→List Value} {k:Nat} {w w':World} {base L n:Nat} {eL e:TypeId} {vs:List Value} {rows:Nat→List α}
theorem Grp.call (h:Grp enc k w base L n eL e vs rows) (hb:Below w.heap.size w w'):Grp enc k w' base L n eL e vs rows :=
 ⟨own_below h.own hb,fun s hs => own_below (h.row s hs) hb,h.ap⟩
theorem Grp.kept (h:Grp enc k w base L n eL e vs rows) {row:Option Nat} (hg:w.grownBy w' row) (h1:row≠some L) (h2:∀ s,s < n→(vs.getD s nilV).ownBlock = none∨(vs.getD s nilV).ownBlock≠row):Grp enc k w' base L n eL e vs rows :=
 ⟨h.own.kept hg (.inr fun e => h1 e.symm),fun s hs => (h.row s hs).kept hg (h2 s hs),h.ap⟩
theorem Grp.set (h:Grp enc k w base L n eL e vs rows) {p:Addr} (h1:p.block≠L) (h2:∀ s,s < n→(vs.getD s nilV).ownBlock≠some p.block) (u:Value):Grp enc k (w.setCell p u) base L n eL e vs rows :=
 ⟨own_setCell h.own (fun e => h1 (Option.some.inj e).symm) u,fun s hs => own_setCell (h.row s hs) (h2 s hs) u,h.ap⟩
theorem getD_set_same (l:List Value) (s:Nat) (v d:Value) (h:s < l.length):(l.set s v).getD s d = v:=by
 rw [List.getD_eq_getElem?_getD,List.getElem?_set_self h]; rfl
theorem getD_set_other (l:List Value) (s t:Nat) (v d:Value) (h:s≠t):(l.set s v).getD t d = l.getD t d:=by
 rw [List.getD_eq_getElem?_getD,List.getD_eq_getElem?_getD,List.getElem?_set_ne h]
theorem Grp.put (h:Grp enc k w base L n eL e vs rows) (hne:eL≠e) (s:Nat) (hs:s < n) {v':Value} (x:α) (hg:w.grownBy w' (vs.getD s nilV).ownBlock) (ho:w'.ownsRow base e k v' ((rows s).length + 1) (encs enc (rows s) ++ enc x)) (hl:v'.ownBlock = (vs.getD s nilV).ownBlock∨v'.ownBlock = some w.heap.size) :
    Grp enc k (w'.setCell ⟨L,s,none⟩ v') base L n eL e (vs.set s v') (fun t => if t = s then rows s ++ [x] else rows t):=by
 have hlen:vs.length = n:=by have:=h.own.1; omega
 have hrs:=h.row s hs
 have ko:=h.own.kept hg (apart_types h.own hrs hne).or_none
 have ho':w'.ownsRow base e k v' (rows s ++ [x]).length (encs enc (rows s ++ [x])):=by rw [encs_snoc,List.length_append]; exact ho
 have hL:∀ {v:Value} {m:Nat} {ys:List Value},w'.ownsRow base e k v m ys→v.ownBlock≠some L:=fun {v m ys} hv => (apart_types ko hv hne) L rfl
 refine ⟨own_setAt ko s hs v',fun t ht => ?_,fun t t' ht ht' htt => ?_⟩
 ·by_cases e1:t = s
  ·subst e1
   rw [getD_set_same _ _ _ _ (by omega),if_pos rfl]
   exact own_setCell ho' (hL ho') _
  ·rw [getD_set_other _ _ _ _ _ (Ne.symm e1),if_neg e1]
   have kt:=(h.row t ht).kept hg (h.ap t s ht hs e1).or_none
   exact own_setCell kt (hL kt) _
 ·by_cases e1:t = s
  ·subst e1
   rw [getD_set_same _ _ _ _ (by omega),getD_set_other _ _ _ _ _ htt]
   intro g hg1 hg2
   rcases hl with h1 | h1
   ·exact h.ap t t' ht ht' htt g (by rw [← h1]; exact hg1) hg2
   ·rw [h1] at hg1
    have:=Option.some.inj hg1
    have:=(own_lt (h.row t' ht') g hg2).2
    omega
  ·by_cases e2:t' = s
   ·subst e2
    rw [getD_set_same _ _ _ _ (by omega),getD_set_other _ _ _ _ _ (Ne.symm e1)]
    intro g hg1 hg2
    rcases hl with h1 | h1
    ·exact h.ap t t' ht ht' htt g hg1 (by rw [← h1]; exact hg2)
    ·rw [h1] at hg2
     have:=Option.some.inj hg2
     have:=(own_lt (h.row t ht) g hg1).2
     omega
   ·rw [getD_set_other _ _ _ _ _ (Ne.symm e1),getD_set_other _ _ _ _ _ (Ne.symm e2)]
    exact h.ap t t' ht ht' htt
end
end Go.Proofs.YtcondkihpmmnnaaGreatDoor
namespace Go.Proofs.YtcondkihpmmnnaaGreatDoor
open Go.RowKit Go.Sort
def GrpR {α:Type} (enc:α→List Value) (k:Nat) (w:World) (B L n:Nat) (rows:Nat→List α):Prop :=
 L < B∧∀ s,s < n→∃ A c,w.cell? ⟨L,s,none⟩ = some (.slice A (rows s).length c)∧(rows s).length≤c∧c≤maxLen∧Reads w B k A (rows s).length (encs enc (rows s))
variable {α:Type} {enc:α→List Value} {k:Nat} {w w':World} {base B B' L n:Nat} {eL e:TypeId} {vs:List Value} {rows:Nat→List α}
theorem Grp.read (h:Grp enc k w base L n eL e vs rows) (hL:L < w.heap.size):GrpR enc k w w.heap.size L n rows:=by
 refine ⟨hL,fun s hs => ?_⟩
 have hr:=h.row s hs
 obtain ⟨A,c,hv,h1,h2,_⟩:=own_form hr
 have hc:=own_cellAt h.own s hs nilV
 rw [hv] at hc hr
 exact ⟨A,c,hc,h1,h2,Reads.of_own hr⟩
theorem GrpR.below (h:GrpR enc k w B L n rows) (hb:Below B w w'):GrpR enc k w' B L n rows :=
 ⟨h.1,fun s hs => by
  obtain ⟨A,c,h1,h2,h3,h4⟩:=h.2 s hs
  exact ⟨A,c,(hb.cell (p:=⟨L,s,none⟩) h.1).trans h1,h2,h3,h4.below hb⟩⟩
theorem GrpR.more (h:GrpR enc k w B L n rows) (hB:B≤B'):GrpR enc k w B' L n rows :=
 ⟨Nat.lt_of_lt_of_le h.1 hB,fun s hs => by
  obtain ⟨A,c,h1,h2,h3,h4⟩:=h.2 s hs
  exact ⟨A,c,h1,h2,h3,h4.more hB⟩⟩
end Go.Proofs.YtcondkihpmmnnaaGreatDoor
namespace Go.Proofs.YtcondkihpmmnnaaGreatDoor
open Go.RowKit Go.Sort
def ReadsP (p:Nat→Prop) (w:World) (size:Nat) (A:Option Addr) (n:Nat) (xs:List Value):Prop :=
 xs.length = n * size∧(0 < n→∃ ad,A = some ad∧p ad.block∧∀ j u,xs[j]? = some u→w.cell? (ad.add j) = some u)
section
variable {p q:Nat→Prop} {w w':World} {B size n:Nat} {A:Option Addr} {xs:List Value}
theorem cell_kept {w w':World} {a:Addr} (h:w'.heap[a.block]? = w.heap[a.block]?):w'.cell? a = w.cell? a:=World.cell?_of_block h
theorem ReadsP.reads (h:ReadsP p w size A n xs) (hp:∀ k,p k→k < B):Reads w B size A n xs :=
 ⟨h.1,fun hn => by
  obtain ⟨ad,e,hb,hc⟩:=h.2 hn
  exact ⟨ad,e,hp _ hb,hc⟩⟩
theorem ReadsP.kept (h:ReadsP p w size A n xs) (hk:∀ k,p k→w'.heap[k]? = w.heap[k]?):ReadsP p w' size A n xs :=
 ⟨h.1,fun hn => by
  obtain ⟨ad,e,hb,hc⟩:=h.2 hn
  exact ⟨ad,e,hb,fun j u hu => (cell_kept (by rw [block_of_add]; exact hk _ hb)).trans (hc j u hu)⟩⟩
theorem ReadsP.mono (h:ReadsP p w size A n xs) (hp:∀ k,p k→q k):ReadsP q w size A n xs :=
 ⟨h.1,fun hn => by
  obtain ⟨ad,e,hb,hc⟩:=h.2 hn
  exact ⟨ad,e,hp _ hb,hc⟩⟩
theorem ReadsP.of_reads (h:Reads w B size A n xs) (hp:∀ k,k < B→p k):ReadsP p w size A n xs :=
 ⟨h.1,fun hn => by
  obtain ⟨ad,e,hb,hc⟩:=h.2 hn
  exact ⟨ad,e,hp _ hb,hc⟩⟩
theorem ReadsP.of_own {base:Nat} {e:TypeId} {c:Nat} (h:w.ownsRow base e size (.slice A n c) n xs) (hp:∀ g,(Value.slice A n c).ownBlock = some g→p g):ReadsP p w size A n xs:=by
 refine ⟨h.1,fun hn => ?_⟩
 obtain ⟨ad,rfl,hb,hc⟩:=(Reads.of_own h).2 hn
 obtain ⟨g,cap,hv,_,hlt⟩:=h.form hn
 injection hv with hv
 have hv:=Option.some.inj hv
 subst hv
 exact ⟨_,rfl,hp g rfl,hc⟩
end
def GrpP {α:Type} (p:Nat→Prop) (enc:α→List Value) (k:Nat) (w:World) (L n:Nat) (rows:Nat→List α):Prop :=
 p L∧∀ s,s < n→∃ A c,w.cell? ⟨L,s,none⟩ = some (.slice A (rows s).length c)∧(rows s).length≤c∧c≤maxLen∧ReadsP p w k A (rows s).length (encs enc (rows s))
section
variable {α:Type} {p:Nat→Prop} {enc:α→List Value} {k:Nat} {w w':World} {base B L n:Nat} {eL e:TypeId} {vs:List Value} {rows:Nat→List α}
theorem GrpP.kept (h:GrpP p enc k w L n rows) (hk:∀ k,p k→w'.heap[k]? = w.heap[k]?):GrpP p enc k w' L n rows :=
 ⟨h.1,fun s hs => by
  obtain ⟨A,c,h1,h2,h3,h4⟩:=h.2 s hs
  exact ⟨A,c,(cell_kept (a:=⟨L,s,none⟩) (hk _ h.1)).trans h1,h2,h3,h4.kept hk⟩⟩
theorem GrpP.read (h:GrpP p enc k w L n rows) (hp:∀ k,p k→k < B):GrpR enc k w B L n rows :=
 ⟨hp _ h.1,fun s hs => by
  obtain ⟨A,c,h1,h2,h3,h4⟩:=h.2 s hs
  exact ⟨A,c,h1,h2,h3,h4.reads hp⟩⟩
theorem GrpP.of_grp (h:Grp enc k w base L n eL e vs rows) (hL:p L) (hp:∀ s g,s < n→(vs.getD s nilV).ownBlock = some g→p g):GrpP p enc k w L n rows:=by
 refine ⟨hL,fun s hs => ?_⟩
 have hr:=h.row s hs
 obtain ⟨A,c,hv,h1,h2,_⟩:=own_form hr
 have hc:=own_cellAt h.own s hs nilV
 have hq:=hp s
 rw [hv] at hc hr hq
 exact ⟨A,c,hc,h1,h2,ReadsP.of_own hr fun g hg => hq g hs hg⟩
end
theorem seen_look {α:Type} {T mt ut:TypeId} {enc:α→List Value} {ok:α→Prop} {w:World} {b:Nat} {l:List α} [DecidableEq α] (K:Maps.Keyed Tryz.prog T) (ht:Tryz.prog.underlying mt = some (.map T ut)) (hz:∀ W,(zeroValue ut).run Tryz.prog W = .ok (.agg #[]) W)
    (h:Seen T enc ok w b l) (x:α) (hx:ok x) {kl:Lit} (hk:keyOf Tryz.prog T (.agg (enc x).toArray) = some kl) :
    (Instr.lookup mt (.map (some b)) (.agg (enc x).toArray) true).run Tryz.prog w = .ok (.tuple #[.agg #[],.bool (decide (x∈l))]) w:=by
 obtain ⟨n,D,ho,_,_,hh⟩:=h
 obtain ⟨v,ps,h1,h2⟩:=ho.look_ok K ht (hz w) unitElem_mk hk
 obtain ⟨rfl,_⟩:=unitElem_inv h2
 rw [h1]
 have:=hh x hx kl hk
 rcases hb:Maps.has D kl with _ | _
 ·rw [hb] at this
  rw [decide_eq_false (fun e => by have:=this.2 e; cases this)]
 ·rw [hb] at this
  rw [decide_eq_true (this.1 rfl)]
end Go.Proofs.YtcondkihpmmnnaaGreatDoor
