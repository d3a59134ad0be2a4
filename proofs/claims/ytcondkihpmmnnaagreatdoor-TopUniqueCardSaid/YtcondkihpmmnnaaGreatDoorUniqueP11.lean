/- Lemmas, part 11 of 39. No condition. -/
import Derived.Test.YtcondkihpmmnnaaGreatDoorUniqueP07
import Derived.Test.YtcondkihpmmnnaaGreatDoorUniqueP06
import Derived.Lib.ItoaNum
import Derived.Test.YtcondkihpmmnnaaGreatDoorUniqueP08
import Derived.Test.YtcondkihpmmnnaaGreatDoorUniqueP10
namespace Go.Proofs.YtcondkihpmmnnaaGreatDoor
def tipF (x:Tp) (S:List Tp) (ov:Bool):List Tp × Bool:=if x∈S∨ov = true then (S,ov) else if 1024≤S.length∨1024 < x.out.size then (S,true) else (S ++ [x],false)
def arcF (x:Ar) (S:List Ar) (ov:Bool):List Ar × Bool:=if x∈S∨ov = true then (S,ov) else if 16384≤S.length∨1024 < x.out.size then (S,true) else (S ++ [x],false)
def Puts {α:Type} (S:List α) (ov:Bool) (l:List (Option α)):Prop:=ov = false→none ∉ l∧∀ x,x∈S↔some x∈l
theorem Puts.nil {α:Type}:Puts ([]:List α) false []:=fun _ => ⟨List.not_mem_nil,fun _x => ⟨fun h => (List.not_mem_nil h).elim,fun h => (List.not_mem_nil h).elim⟩⟩
theorem Puts.over {α:Type} (S:List α) (l:List (Option α)):Puts S true l:=fun h => by cases h
theorem Puts.snoc {α:Type} {S:List α} {l:List (Option α)} {x:α} (h:none ∉ l∧∀ y,y∈S↔some y∈l):(none ∉ l ++ [some x])∧∀ y,(y∈S∨y = x)↔some y∈l ++ [some x]:=by
 refine ⟨fun h2 => ?_,fun y => ?_⟩
 ·rcases List.mem_append.1 h2 with h3 | h3
  ·exact h.1 h3
  ·cases List.mem_singleton.1 h3
 ·rw [List.mem_append,List.mem_singleton,h.2 y]
  exact ⟨fun h => h.imp id (fun e => by rw [e]),fun h => h.imp id (fun e => Option.some.inj e)⟩
theorem Puts.tip {S:List Tp} {ov:Bool} {l:List (Option Tp)} (h:Puts S ov l) (x:Tp):Puts (tipF x S ov).1 (tipF x S ov).2 (l ++ [some x]):=by
 unfold tipF
 split
 ·rename_i h1
  intro hov
  replace hov:ov = false:=hov
  have h2:=Puts.snoc (x:=x) (h hov)
  refine ⟨h2.1,fun y => ?_⟩
  rw [← h2.2 y]
  have hx:x∈S:=h1.resolve_right (by rw [hov]; decide)
  exact ⟨.inl,fun h => h.elim id (fun e => by rw [e]; exact hx)⟩
 ·rename_i h1
  split
  ·exact Puts.over _ _
  ·intro _
   have h2:=Puts.snoc (x:=x) (h (by rcases ov with _ | _; rfl; exact absurd (.inr rfl) h1))
   exact ⟨h2.1,fun y => by rw [← h2.2 y,List.mem_append,List.mem_singleton]⟩
theorem Puts.arc {S:List Ar} {ov:Bool} {l:List (Option Ar)} (h:Puts S ov l) (x:Ar):Puts (arcF x S ov).1 (arcF x S ov).2 (l ++ [some x]):=by
 unfold arcF
 split
 ·rename_i h1
  intro hov
  replace hov:ov = false:=hov
  have h2:=Puts.snoc (x:=x) (h hov)
  refine ⟨h2.1,fun y => ?_⟩
  rw [← h2.2 y]
  have hx:x∈S:=h1.resolve_right (by rw [hov]; decide)
  exact ⟨.inl,fun h => h.elim id (fun e => by rw [e]; exact hx)⟩
 ·rename_i h1
  split
  ·exact Puts.over _ _
  ·intro _
   have h2:=Puts.snoc (x:=x) (h (by rcases ov with _ | _; rfl; exact absurd (.inr rfl) h1))
   exact ⟨h2.1,fun y => by rw [← h2.2 y,List.mem_append,List.mem_singleton]⟩
def TipsB (n:Int) (S:List Tp):Prop:=S.length≤1024∧∀ x∈S,0≤x.st∧x.st < n∧x.out.size≤1024
theorem TipsB.tip {n:Int} {S:List Tp} (h:TipsB n S) (x:Tp) (ov:Bool) (hx:0≤x.st∧x.st < n):TipsB n (tipF x S ov).1:=by
 unfold tipF
 split
 ·exact h
 split
 ·exact h
 ·rename_i _ h1
  refine ⟨by rw [List.length_append,List.length_singleton]; omega,fun y hy => ?_⟩
  rcases List.mem_append.1 hy with h2 | h2
  ·exact h.2 y h2
  ·rw [List.mem_singleton.1 h2]; exact ⟨hx.1,hx.2,by omega⟩
def ArcsB (n:Int) (A:List Ar):Prop:=A.length≤16384∧∀ x∈A,0≤x.fr∧x.fr < n∧0≤x.to∧x.to < n∧x.out.size≤1024∧StW x.set∧x.set≠St.none
theorem ArcsB.arc {n:Int} {A:List Ar} (h:ArcsB n A) (x:Ar) (ov:Bool) (hx:0≤x.fr∧x.fr < n∧0≤x.to∧x.to < n) (hs:StW x.set∧x.set≠St.none):ArcsB n (arcF x A ov).1:=by
 unfold arcF
 split
 ·exact h
 split
 ·exact h
 ·rename_i _ h1
  refine ⟨by rw [List.length_append,List.length_singleton]; omega,fun y hy => ?_⟩
  rcases List.mem_append.1 hy with h2 | h2
  ·exact h.2 y h2
  ·rw [List.mem_singleton.1 h2]; exact ⟨hx.1,hx.2.1,hx.2.2.1,hx.2.2.2,by omega,hs.1,hs.2⟩
theorem tipF_over (x:Tp) (S:List Tp):tipF x S true = (S,true):=by unfold tipF; rw [if_pos (.inr rfl)]
theorem arcF_over (x:Ar) (S:List Ar):arcF x S true = (S,true):=by unfold arcF; rw [if_pos (.inr rfl)]
theorem waysF_few {arcs:List Ar} {n:Nat} (hok:∀ x∈arcs,0≤x.to∧x.to < (n:Int)∧x.out.size≤1024) {s:Nat} (hs:s < n):∀ (m:Nat) (w:List UInt8) (l:List Tp),w.length = m→waysF arcs s w = some l→l.length≤4096∧∀ p∈l,0≤p.st∧p.st < (n:Int)∧p.out.size≤m * 1025
 | 0,w,l,hw,h => by
  obtain rfl:=List.eq_nil_of_length_eq_zero hw
  cases h
  refine ⟨by simp,fun p hp => ?_⟩
  rw [List.mem_singleton] at hp
  subst hp
  exact ⟨by simp,by simpa using hs,Nat.zero_le _⟩
 | m + 1,w,l,hw,h => by
  rcases List.eq_nil_or_concat w with rfl | ⟨w',b,rfl⟩
  ·cases hw
  ·rw [List.concat_eq_append] at *
   rw [waysF_snoc] at h
   rcases h1:waysF arcs s w' with _ | now
   ·rw [h1] at h; cases h
   ·have ih:=waysF_few hok hs m w' now (by simpa using hw) h1
    rw [h1] at h
    obtain ⟨hm,_,hl⟩:=puts_mem _ _ _ rfl (show puts (outsP arcs b now) = some l from h)
    refine ⟨hl,fun q hq => ?_⟩
    obtain ⟨p,hp,x,hx,_,_,rfl⟩:=mem_outsP.1 ((hm q).1 hq)
    obtain ⟨a1,a2,a3⟩:=ih.2 p hp
    obtain ⟨b1,b2,b3⟩:=hok x hx
    refine ⟨b1,b2,?_⟩
    have:=nxT_size p x b
    omega
end Go.Proofs.YtcondkihpmmnnaaGreatDoor
namespace Go.Proofs.YtcondkihpmmnnaaGreatDoor
def valD (l:List UInt8):Nat:=l.foldl (fun a c => a * 10 + (c.toNat - 48)) 0
theorem decDigits_val (u:Nat):valD (Lib.decDigits u) = u∧(58:UInt8) ∉ Lib.decDigits u:=by
 induction u using Nat.strongRecOn with
 | _ u ih =>
  have hd:∀ i,i < 10→(UInt8.ofNat (48 + i)).toNat = 48 + i:=fun i hi => by simp; omega
  have hc:∀ i,i < 10→(58:UInt8)≠UInt8.ofNat (48 + i):=fun i hi e => by
   have:=congrArg UInt8.toNat e
   rw [hd i hi] at this
   have h58:(58:UInt8).toNat = 58:=rfl
   omega
  rw [Lib.decDigits]
  split
  ·rename_i h
   exact ⟨by unfold valD; simp only [List.foldl_cons,List.foldl_nil]; rw [hd u h]; omega,by rw [List.mem_singleton]; exact hc u h⟩
  ·rename_i h
   obtain ⟨h1,h2⟩:=ih (u / 10) (by omega)
   have hm:u % 10 < 10:=Nat.mod_lt _ (by decide)
   refine ⟨?_,?_⟩
   ·unfold valD at h1 ⊢
    rw [List.foldl_append,h1]
    simp only [List.foldl_cons,List.foldl_nil]
    rw [hd _ hm]
    omega
   ·rw [List.mem_append,List.mem_singleton]
    exact fun h => h.elim h2 (hc _ hm)
theorem decDigits_inj {u v:Nat} (h:Lib.decDigits u = Lib.decDigits v):u = v:=by
 rw [← (decDigits_val u).1,← (decDigits_val v).1,h]
theorem colon_split:∀ {a b x y:List UInt8},(58:UInt8) ∉ a→(58:UInt8) ∉ b→a ++ 58 :: x = b ++ 58 :: y→a = b∧x = y
 | [],[],_,_,_,_,h => ⟨rfl,by injection h⟩
 | [],c :: b,_,_,_,hb,h => by injection h with h _; exact (hb (by rw [h]; exact List.mem_cons_self)).elim
 | c :: a,[],_,_,ha,_,h => by injection h with h _; exact (ha (by rw [← h]; exact List.mem_cons_self)).elim
 | c :: a,d :: b,x,y,ha,hb,h => by
  injection h with h1 h2
  obtain ⟨e1,e2⟩:=colon_split (fun h => ha (List.mem_cons_of_mem _ h)) (fun h => hb (List.mem_cons_of_mem _ h)) h2
  exact ⟨by rw [h1,e1],e2⟩
def keyT1 (x:Tp):List UInt8:=Lib.decDigits x.st.toNat ++ 58 :: (Lib.decDigits x.out.size ++ 58 :: bl x.out)
def keyR (l:List Tp):List UInt8:=l.flatMap keyT1
theorem keyR_inj:∀ {l m:List Tp},(∀ x∈l,0≤x.st)→(∀ x∈m,0≤x.st)→keyR l = keyR m→l = m
 | [],[],_,_,_ => rfl
 | [],y :: m,_,_,h => by
  have:=congrArg List.length h
  simp [keyR,keyT1] at this
 | x :: l,[],_,_,h => by
  have:=congrArg List.length h
  simp [keyR,keyT1] at this
 | x :: l,y :: m,hl,hm,h => by
  have h':keyT1 x ++ keyR l = keyT1 y ++ keyR m:=h
  unfold keyT1 at h'
  simp only [List.append_assoc,List.cons_append] at h'
  obtain ⟨e1,h2⟩:=colon_split (decDigits_val _).2 (decDigits_val _).2 h'
  obtain ⟨e2,h3⟩:=colon_split (decDigits_val _).2 (decDigits_val _).2 h2
  have s1:=decDigits_inj e1
  have s2:=decDigits_inj e2
  obtain ⟨e3,e4⟩:=List.append_inj h3 (by rw [bl_len,bl_len]; exact s2)
  have hx:=hl x List.mem_cons_self
  have hy:=hm y List.mem_cons_self
  have e5:=keyR_inj (fun z hz => hl z (List.mem_cons_of_mem _ hz)) (fun z hz => hm z (List.mem_cons_of_mem _ hz)) e4
  obtain ⟨xs,xo⟩:=x
  obtain ⟨ys,yo⟩:=y
  simp only at s1 hx hy
  have e6:xs = ys:=by omega
  have e7:xo = yo:=bl_inj e3
  rw [e5,e6,e7]
end Go.Proofs.YtcondkihpmmnnaaGreatDoor
namespace Go.Proofs.YtcondkihpmmnnaaGreatDoor
open Go.RowKit Go.Sort
section
variable {P:Program} {ops:Array Oper} {md:Region.Mode} {S:World→Prop} {Q:Exit→Act→World→Prop}
def fanGB (md:Region.Mode) (ops:Array Oper) (n g:Nat) (dep:Nat→List Nat):Nat→List Nat→Array Bool→Bool
 | 0,is,listed => is.isEmpty && Region.seqB md ops g n listed
 | k + 1,is,listed => !(Region.ready md ops listed).isEmpty && (Region.ready md ops listed).all fun i => decide (i < n) && is.contains i && (dep i).all (fun j => !is.contains j) && fanGB md ops n g dep k (is.erase i) (listed.setIfInBounds i true)
theorem headH_fanG {n g:Nat} {tail:List Oper} {dep:Nat→List Nat} (hL:(ops.toList.drop n) = tail) (Inv:List Nat→Act→World→Prop)
    (hstep:∀ is a W,Inv is a W→∀ i∈is,(∀ j∈dep i,j ∉ is)→∃ o,ops[i]? = some o∧o.guard = none∧o.wp P a W (fun a' W' => S W'∧Inv (is.erase i) a' W') Q)
    (hend:∀ a W,Inv [] a W→wpList P ops Q tail a W) :
    ∀ (k:Nat) (is:List Nat) (listed:Array Bool) (a:Act) (w:World),fanGB md ops n g dep k is listed = true→Inv is a w →
    headH P md ops Q S n (fun listed' a' w' => Region.seqB md ops g n listed' = true∧wpList P ops Q tail a' w') k listed a w
 | 0,is,_,a,w,hB,h => by
  simp only [fanGB,Bool.and_eq_true,List.isEmpty_iff] at hB
  rw [hB.1] at h
  exact ⟨hB.2,hend a w h⟩
 | k + 1,is,listed,a,w,hB,h => by
  simp only [fanGB,Bool.and_eq_true,decide_eq_true_eq,List.all_eq_true,List.contains_iff_mem,Bool.not_eq_true'] at hB
  obtain ⟨hne,hall⟩:=hB
  refine ⟨by intro e; rw [e] at hne; simp at hne,fun j hj => ?_⟩
  obtain ⟨⟨⟨hjn,hji⟩,hjd⟩,hjB⟩:=hall j hj
  obtain ⟨o,ho,hg,hw⟩:=hstep is a w h j hji (fun d hd hm => by
   have h1:=hjd d hd
   have h2:is.contains d = true:=List.contains_iff_mem.2 hm
   rw [h2] at h1; cases h1)
  refine ⟨hjn,?_⟩
  unfold wpOp
  simp only [ho]
  have hwa:Region.wanted o (yielded ops a.tmps) = true:=by simp [Region.wanted,hg]
  rw [if_pos hwa]
  exact .inl (Oper.wp_mono (fun a' w' h' => ⟨h'.1,headH_fanG hL Inv hstep hend k _ _ a' w' hjB h'.2⟩) hw)
def holdGB (md:Region.Mode) (ops:Array Oper) (n:Nat) (qs is:List Nat) (dep:Nat→List Nat):Bool :=
 Region.noSelect ops && decide (n < ops.size) && Region.sinkB md ops n && Region.chainB md ops n && takesB md ops n qs (Array.replicate ops.size false) &&
  fanGB md ops n (ops.size - n) dep is.length is (listedBy qs (Array.replicate ops.size false))
theorem wp_region_fanG {id:Nat} {a:Act} {w:World} {l:List Oper} (S:World→Prop) (n:Nat) (qs is:List Nat) (dep:Nat→List Nat) (lq:List Oper) (hm:P.follows .mixedOrders = true) (hB:holdGB .any l.toArray n qs is dep = true)
    (hlen:qs.length + is.length = n) (hq:qs.map (fun i => l.toArray[i]?) = lq.map some)
    (hQ:∀ c a d v w,Q (.panic c) (a.put d v) w→Q (.panic c) a w) (hS:S w.drew) (Inv:List Nat→Act→World→Prop)
    (hstep:∀ is a W,Inv is a W→∀ i∈is,(∀ j∈dep i,j ∉ is)→∃ o,l.toArray[i]? = some o∧o.guard = none∧o.wp P a W (fun a' W' => S W'∧Inv (is.erase i) a' W') Q)
    (hend:∀ a W,Inv [] a W→wpList P l.toArray Q (l.drop n) a W)
    (h:wpQuiet P l.toArray S (fun a' => Inv is a' w.drew) lq a):(Code.region id l.toArray true).wp P Q a w:=by
 simp only [holdGB,Bool.and_eq_true,decide_eq_true_eq] at hB
 obtain ⟨⟨⟨⟨⟨hsel,hn⟩,hs⟩,hc⟩,htk⟩,hfc⟩:=hB
 have hdl:(l.drop n).length = l.toArray.size - n:=by simp
 have inv0:HeadInv .any l.toArray n (Array.replicate l.toArray.size false) :=
  ⟨by simp,fun j oj _ hl => (by rw [getD_replicate_false] at hl; cases hl),fun t _ ht => getD_in (by simpa using ht) (getD_replicate_false _ _)⟩
 have H:=headH_take (P:=P) (S:=S) (md:=.any) (g:=l.toArray.size - n) (tail:=l.drop n) (m:=is.length) hsel hs hc hn hQ hS (fun a' ha' => headH_fanG rfl Inv hstep hend is.length is _ a' _ hfc ha') qs lq _ a hq inv0 htk rfl h
 refine wp_region_any hm ?_
 have:=any_of_headH (P:=P) (S:=S) (g:=l.toArray.size - n) (fun listed a' w' hL => by
  have:=wpAny_of_seq (md:=.any) (Q':=Q) (l.drop n) n listed a' w' (fun j => by simp [List.getElem?_drop]) (by rw [hdl]; exact hL.1) hL.2
  rwa [hdl] at this) _ _ _ _ H
 have hn':n < l.toArray.size:=hn
 rw [hlen,show n + (l.toArray.size - n) = l.toArray.size by omega] at this
 exact this
theorem wp_region_fanG_below {id:Nat} {a:Act} {w:World} {l:List Oper} (n:Nat) (qs is:List Nat) (dep:Nat→List Nat) (hm:P.follows .mixedOrders = true) (hB:holdGB .any l.toArray n qs is dep = true)
    (hlen:qs.length + is.length = n) (hin:(qs.all fun i => decide (i < l.length)) = true) (Inv:List Nat→Act→World→Prop)
    (hstep:∀ is a W,Inv is a W→∀ i∈is,(∀ j∈dep i,j ∉ is)→∃ o,l.toArray[i]? = some o∧o.guard = none∧o.wp P a W (fun a' W' => (∃ p:Regrown,W' = grow (redrawn w p.d) p.os)∧Inv (is.erase i) a' W') (NoPanic Q))
    (hend:∀ a W,Inv [] a W→wpList P l.toArray (NoPanic Q) (l.drop n) a W)
    (h:wpQuiet P l.toArray (fun w' => ∃ p:Regrown,w' = grow (redrawn w p.d) p.os) (fun a' => Inv is a' w.drew) (pickOps l qs) a) :
    (Code.region id l.toArray true).wp P Q a w:=by
 refine wp_region_noPanic ?_
 exact wp_region_fanG (fun w' => ∃ p:Regrown,w' = grow (redrawn w p.d) p.os) n qs is dep _ hm hB hlen (pickOps_map l qs hin) (fun _ _ _ _ _ h => h) ⟨⟨w.drawn + 1,#[]⟩,by rw [grow_empty]; rfl⟩ Inv hstep hend h
end
end Go.Proofs.YtcondkihpmmnnaaGreatDoor
namespace Go.Proofs.YtcondkihpmmnnaaGreatDoor
open Go.RowKit Go.Sort
section
variable {P:Program} {ops:Array Oper} {Q:Exit→Act→World→Prop}
structure FanInv (P:Program) (base:Act) (w:World) (ds:List Tmp) (mk:Nat→Tmp × (Value→World→Prop)) (is0 is:List Nat) (a:Act) (W:World):Prop where
 defers:a.defers = base.defers
 size:a.tmps.size = base.tmps.size
 same:∀ x,x ∉ ds→a.tmps[x]? = base.tmps[x]?
 bel:Below w.heap.size w W
 made:∀ i∈is0,i ∉ is→∃ v,a.tmps[(mk i).1]? = some v∧(mk i).2 v W
theorem act_eq4 {a base:Act} {d1 d2 d3 d4:Tmp} {v1 v2 v3 v4:Value} (hd:a.defers = base.defers) (hz:a.tmps.size = base.tmps.size) (hs:∀ x,x ∉ [d1,d2,d3,d4]→a.tmps[x]? = base.tmps[x]?)
    (h1:a.tmps[d1]? = some v1) (h2:a.tmps[d2]? = some v2) (h3:a.tmps[d3]? = some v3) (h4:a.tmps[d4]? = some v4):a = (((base.put (some d1) v1).put (some d2) v2).put (some d3) v3).put (some d4) v4:=by
 obtain ⟨t,df⟩:=a
 obtain ⟨t',df'⟩:=base
 simp only at hd hz hs h1 h2 h3 h4
 subst hd
 have l1:d1 < t.size:=(Array.getElem?_eq_some_iff.1 h1).1
 have l2:d2 < t.size:=(Array.getElem?_eq_some_iff.1 h2).1
 have l3:d3 < t.size:=(Array.getElem?_eq_some_iff.1 h3).1
 have l4:d4 < t.size:=(Array.getElem?_eq_some_iff.1 h4).1
 show Act.mk _ _ = Act.mk _ _
 congr 1
 apply Array.ext_getElem?
 intro x
 show t[x]? = ((((t'.setIfInBounds d1 v1).setIfInBounds d2 v2).setIfInBounds d3 v3).setIfInBounds d4 v4)[x]?
 simp only [Array.getElem?_setIfInBounds,Array.size_setIfInBounds,← hz]
 by_cases e4:d4 = x
 ·subst e4; rw [if_pos rfl,if_pos l4]; exact h4
 ·by_cases e3:d3 = x
  ·subst e3; rw [if_neg e4,if_pos rfl,if_pos l3]; exact h3
  ·by_cases e2:d2 = x
   ·subst e2; rw [if_neg e4,if_neg e3,if_pos rfl,if_pos l2]; exact h2
   ·by_cases e1:d1 = x
    ·subst e1; rw [if_neg e4,if_neg e3,if_neg e2,if_pos rfl,if_pos l1]; exact h1
    ·simp only [e4,e3,e2,e1,if_false]
     exact hs x (by simp [Ne.symm e1,Ne.symm e2,Ne.symm e3,Ne.symm e4])
end
end Go.Proofs.YtcondkihpmmnnaaGreatDoor
namespace Go.Proofs.YtcondkihpmmnnaaGreatDoor
open Go.RowKit
theorem St.both_w (s t:St) (h:StW s) (_h':StW t):StW (s.both t) :=
 ⟨Nat.lt_of_le_of_lt Nat.and_le_left h.1,Nat.lt_of_le_of_lt Nat.and_le_left h.2.1,Nat.lt_of_le_of_lt Nat.and_le_left h.2.2.1,Nat.lt_of_le_of_lt Nat.and_le_left h.2.2.2⟩
theorem bothS_any (s t:St) (h:StW s) (h':StW t) (w:World) :
    Calls Tryz.prog 58 #[.agg #[.int .u64 (s.a:Int),.int .u64 (s.b:Int),.int .u64 (s.c:Int),.int .u64 (s.d:Int)],.agg #[.int .u64 (t.a:Int),.int .u64 (t.b:Int),.int .u64 (t.c:Int),.int .u64 (t.d:Int)]] w
     (Gives (.agg #[.int .u64 ((s.both t).a:Int),.int .u64 ((s.both t).b:Int),.int .u64 ((s.both t).c:Int),.int .u64 ((s.both t).d:Int)]) w):=by
 obtain ⟨e1,e2,e3,e4⟩:=St.word_m s h
 obtain ⟨f1,f2,f3,f4⟩:=St.word_m t h'
 obtain ⟨g1,g2,g3,g4⟩:=St.word_m (s.both t) (St.both_w s t h h')
 have hm:∀ k,(s.both t).m k = sBoth s.m t.m k:=fun k => St.both_m s t k
 have hm2:(s.both t).m = sBoth s.m t.m:=funext hm
 have:=both_any s.m t.m w
 rw [← hm2] at this
 rw [← e1,← e2,← e3,← e4,← f1,← f2,← f3,← f4,← g1,← g2,← g3,← g4] at this
 exact this
theorem neqS (s:St) (W:World):(binOp .neq 58 (.agg #[.int .u64 (s.a:Int),.int .u64 (s.b:Int),.int .u64 (s.c:Int),.int .u64 (s.d:Int)]) (.agg #[.int .u64 0,.int .u64 0,.int .u64 0,.int .u64 0])).run Tryz.prog W = .ok (.bool (decide (s≠St.none))) W:=by
 rw [neq_words W]
 congr 2
 rw [Bool.eq_iff_iff]
 obtain ⟨s1,s2,s3,s4⟩:=s
 simp [St.none]
end Go.Proofs.YtcondkihpmmnnaaGreatDoor
namespace Go.Proofs.YtcondkihpmmnnaaGreatDoor
open Go.RowKit Go.Sort
theorem eval_agrees {act base:Act} {ds:List Tmp} (h:∀ x,x ∉ ds→act.tmps[x]? = base.tmps[x]?) (t:Tmp) (ht:t ∉ ds):act.eval (.tmp t) = base.eval (.tmp t):=by
 have:=h t ht
 unfold Act.eval
 simp only [this,Array.getD_eq_getD_getElem?]
section
variable {Q:Exit→Act→World→Prop} {base:Act} {w:World} {ds:List Tmp} {o:Oper} {d:Tmp}
theorem maker_slice (hd:o.dst = some d) (hg:o.guard = none) (l:Tmp) (hld:l ∉ ds) (t:TypeId) (hop:o.op = Op.makeSlice t (.tmp l) (.tmp l))
    (e:TypeId) (i:TypeInfo) (z:Value) (size:Nat) (h1:Tryz.prog.underlying t = some (.slice e)) (h2:Tryz.prog.info? e = some i) (h3:i.zero = some z) (h4:i.size = size)
    (n:Nat) (hl:base.eval (.tmp l) = .int .i64 (n:Int)) (b2:i.bytes * n≤281474976710656) (b3:n≤maxLen) :
    Maker Tryz.prog Q base w ds o d (fun v W => ∃ g,v = .slice (some ⟨g,0,none⟩) n n∧w.heap.size≤g∧W.ownsRow w.heap.size e size v n (madeCells z.cells (n * size)).toList):=by
 refine ⟨hd,hg,?_,?_⟩
 ·rintro v W W' ⟨g,rfl,hgz,ho⟩ hb
  exact ⟨g,rfl,hgz,own_below ho hb⟩
 ·intro act W K hag hb hK
  have hl':act.eval (.tmp l) = .int .i64 (n:Int):=(eval_agrees hag l hld).trans hl
  obtain ⟨w',hrun,r1,r2⟩:=run_make_full (P:=Tryz.prog) W w.heap.size t e i z size h1 h2 h3 h4 .i64 .i64 n b2 b3 hb.size
  unfold Oper.wp
  simp [execOp,hop,hl',hrun,Result.andThen]
  show K (act.put o.dst _) _
  rw [hd]
  exact hK _ _ ((Below.refl _ W).grown r2 (Nat.le_refl _) (fun k e => by cases e)) ⟨W.heap.size,rfl,hb.size,r1⟩
theorem maker_map {α:Type} {T:TypeId} {enc:α→List Value} {ok:α→Prop} (hd:o.dst = some d) (hg:o.guard = none) (t:TypeId) (hop:o.op = Op.makeMap t none) :
    Maker Tryz.prog Q base w ds o d (fun v W => ∃ g,v = .map (some g)∧w.heap.size≤g∧Seen T enc ok W g []):=by
 refine ⟨hd,hg,?_,?_⟩
 ·rintro v W W' ⟨g,rfl,hgz,ho⟩ hb
  exact ⟨g,rfl,hgz,ho.below hb (Nat.le_refl _)⟩
 ·intro act W K hag hb hK
  have hrun:=@run_makeMap Tryz.prog
  unfold Oper.wp
  simp [execOp,hop,hrun,Result.andThen]
  show K (act.put o.dst _) _
  rw [hd]
  exact hK _ _ ((Below.refl _ W).alloc (Nat.le_refl _) _) ⟨W.heap.size,rfl,hb.size,Seen.made W⟩
theorem maker_call {F:Value→World→Prop} (hd:o.dst = some d) (hg:o.guard = none) (x:Tmp) (hx:x ∉ ds) (f:FuncId) (ts:Array TypeId) (hop:o.op = Op.call { callee:=.value (.func f),args:=#[.tmp x],argTypes:=ts })
    (he:∀ args W,(callFunc f args).run Tryz.prog W = .ok (.enter f args) W) (hs:∀ v W W',F v W→Below W.heap.size W W'→F v W')
    (h:∀ W,Below w.heap.size w W→Calls Tryz.prog f #[base.eval (.tmp x)] W fun e W' => ∃ v,e = .returned v∧Below W.heap.size W W'∧F v W') :
    Maker Tryz.prog Q base w ds o d F:=by
 refine ⟨hd,hg,hs,?_⟩
 intro act W K hag hb hK
 have hl':act.eval (.tmp x) = base.eval (.tmp x):=eval_agrees hag x hx
 have hf:act.eval (.func f) = .func (.func f) #[] #[]:=rfl
 unfold Oper.wp execOp
 simp only [hop,resolve,invoke,Sem.run_bind,List.map_toArray,List.map_cons,List.map_nil,hl',hf]
 have hdv:(Deferred.ofValue (Value.func (Fn.func f) #[] #[]) #[base.eval (.tmp x)]).run Tryz.prog W = .ok { target:=.fn (.func f) #[],args:=#[base.eval (.tmp x)] } W:=by rfl
 rw [hdv,Result.andThen_ok]
 simp only [Array.append_empty,he]
 rw [Oper.upon_enter]
 refine (h W hb).mono ?_
 rintro e W' ⟨v,rfl,hb2,hF⟩
 show K (act.put o.dst v) W'
 rw [hd]
 exact hK _ _ hb2 hF
end
end Go.Proofs.YtcondkihpmmnnaaGreatDoor
