/- Lemmas, part 13 of 50. No condition. -/
import Derived.Test.YtcondkihpmmnnaaGreatDoorQ09
import Derived.Test.YtcondkihpmmnnaaGreatDoorQ08
import Derived.Maps.OwnSet
import Derived.Test.YtcondkihpmmnnaaGreatDoorQ06
import Derived.Test.YtcondkihpmmnnaaGreatDoorQ04
import Derived.Test.YtcondkihpmmnnaaGreatDoorQ03
import Derived.Test.YtcondkihpmmnnaaGreatDoorQ10
import Derived.Great.BuildSlice
import Derived.Test.YtcondkihpmmnnaaGreatDoorQ12
namespace Go.Proofs.YtcondkihpmmnnaaGreatDoor
def tipF (x:Tp) (S:List Tp) (ov:Bool):List Tp × Bool:=if x∈S∨ov = true then (S,ov) else if 1024≤S.length∨1024 < x.out.size then (S,true) else (S ++ [x],false)
def arcF (x:Ar) (S:List Ar) (ov:Bool):List Ar × Bool:=if x∈S∨ov = true then (S,ov) else if 16384≤S.length∨1024 < x.out.size then (S,true) else (S ++ [x],false)
def Puts {α:Type} (S:List α) (ov:Bool) (l:List (Option α)):Prop:=ov = false→none ∉ l∧∀ x,x∈S↔some x∈l
theorem Puts.nil {α:Type}:Puts ([]:List α) false []:=fun _ => ⟨List.not_mem_nil,fun _x => ⟨fun h => (List.not_mem_nil h).elim,fun h => (List.not_mem_nil h).elim⟩⟩
theorem Puts.over {α:Type} (S:List α) (l:List (Option α)):Puts S true l:=fun h => by cases h
theorem Puts.snoc {α:Type} {S:List α} {l:List (Option α)} {x:α} (h:none ∉ l∧∀ y,y∈S↔some y∈l):(none ∉ l ++ [some x])∧∀ y,(y∈S∨y = x)↔some y∈l ++ [some x]:=by
 refine ⟨fun h2 => ?_,fun y => ?_⟩
 ·rcases List.mem_append.1 h2 with h3 | h3
  ·exact h.1 h3
  ·cases List.mem_singleton.1 h3
 ·rw [List.mem_append,List.mem_singleton,h.2 y]
  exact ⟨fun h => h.imp id (fun e => by rw [e]),fun h => h.imp id (fun e => Option.some.inj e)⟩
theorem Puts.tip {S:List Tp} {ov:Bool} {l:List (Option Tp)} (h:Puts S ov l) (x:Tp):Puts (tipF x S ov).1 (tipF x S ov).2 (l ++ [some x]):=by
 unfold tipF
 split
 ·rename_i h1
  intro hov
  replace hov:ov = false:=hov
  have h2:=Puts.snoc (x:=x) (h hov)
  refine ⟨h2.1,fun y => ?_⟩
  rw [← h2.2 y]
  have hx:x∈S:=h1.resolve_right (by rw [hov]; decide)
  exact ⟨.inl,fun h => h.elim id (fun e => by rw [e]; exact hx)⟩
 ·rename_i h1
  split
  ·exact Puts.over _ _
  ·intro _
   have h2:=Puts.snoc (x:=x) (h (by rcases ov with _ | _; rfl; exact absurd (.inr rfl) h1))
   exact ⟨h2.1,fun y => by rw [← h2.2 y,List.mem_append,List.mem_singleton]⟩
theorem Puts.arc {S:List Ar} {ov:Bool} {l:List (Option Ar)} (h:Puts S ov l) (x:Ar):Puts (arcF x S ov).1 (arcF x S ov).2 (l ++ [some x]):=by
 unfold arcF
 split
 ·rename_i h1
  intro hov
  replace hov:ov = false:=hov
  have h2:=Puts.snoc (x:=x) (h hov)
  refine ⟨h2.1,fun y => ?_⟩
  rw [← h2.2 y]
  have hx:x∈S:=h1.resolve_right (by rw [hov]; decide)
  exact ⟨.inl,fun h => h.elim id (fun e => by rw [e]; exact hx)⟩
 ·rename_i h1
  split
  ·exact Puts.over _ _
  ·intro _
   have h2:=Puts.snoc (x:=x) (h (by rcases ov with _ | _; rfl; exact absurd (.inr rfl) h1))
   exact ⟨h2.1,fun y => by rw [← h2.2 y,List.mem_append,List.mem_singleton]⟩
def TipsB (n:Int) (S:List Tp):Prop:=S.length≤1024∧∀ x∈S,0≤x.st∧x.st < n∧x.out.size≤1024
theorem TipsB.tip {n:Int} {S:List Tp} (h:TipsB n S) (x:Tp) (ov:Bool) (hx:0≤x.st∧x.st < n):TipsB n (tipF x S ov).1:=by
 unfold tipF
 split
 ·exact h
 split
 ·exact h
 ·rename_i _ h1
  refine ⟨by rw [List.length_append,List.length_singleton]; omega,fun y hy => ?_⟩
  rcases List.mem_append.1 hy with h2 | h2
  ·exact h.2 y h2
  ·rw [List.mem_singleton.1 h2]; exact ⟨hx.1,hx.2,by omega⟩
def ArcsB (n:Int) (A:List Ar):Prop:=A.length≤16384∧∀ x∈A,0≤x.fr∧x.fr < n∧0≤x.to∧x.to < n∧x.out.size≤1024∧StW x.set∧x.set≠St.none
theorem ArcsB.arc {n:Int} {A:List Ar} (h:ArcsB n A) (x:Ar) (ov:Bool) (hx:0≤x.fr∧x.fr < n∧0≤x.to∧x.to < n) (hs:StW x.set∧x.set≠St.none):ArcsB n (arcF x A ov).1:=by
 unfold arcF
 split
 ·exact h
 split
 ·exact h
 ·rename_i _ h1
  refine ⟨by rw [List.length_append,List.length_singleton]; omega,fun y hy => ?_⟩
  rcases List.mem_append.1 hy with h2 | h2
  ·exact h.2 y h2
  ·rw [List.mem_singleton.1 h2]; exact ⟨hx.1,hx.2.1,hx.2.2.1,hx.2.2.2,by omega,hs.1,hs.2⟩
theorem tipF_over (x:Tp) (S:List Tp):tipF x S true = (S,true):=by unfold tipF; rw [if_pos (.inr rfl)]
theorem arcF_over (x:Ar) (S:List Ar):arcF x S true = (S,true):=by unfold arcF; rw [if_pos (.inr rfl)]
theorem waysF_few {arcs:List Ar} {n:Nat} (hok:∀ x∈arcs,0≤x.to∧x.to < (n:Int)∧x.out.size≤1024) {s:Nat} (hs:s < n):∀ (m:Nat) (w:List UInt8) (l:List Tp),w.length = m→waysF arcs s w = some l→l.length≤4096∧∀ p∈l,0≤p.st∧p.st < (n:Int)∧p.out.size≤m * 1025
 | 0,w,l,hw,h => by
  obtain rfl:=List.eq_nil_of_length_eq_zero hw
  cases h
  refine ⟨by simp,fun p hp => ?_⟩
  rw [List.mem_singleton] at hp
  subst hp
  exact ⟨by simp,by simpa using hs,Nat.zero_le _⟩
 | m + 1,w,l,hw,h => by
  rcases List.eq_nil_or_concat w with rfl | ⟨w',b,rfl⟩
  ·cases hw
  ·rw [List.concat_eq_append] at *
   rw [waysF_snoc] at h
   rcases h1:waysF arcs s w' with _ | now
   ·rw [h1] at h; cases h
   ·have ih:=waysF_few hok hs m w' now (by simpa using hw) h1
    rw [h1] at h
    obtain ⟨hm,_,hl⟩:=puts_mem _ _ _ rfl (show puts (outsP arcs b now) = some l from h)
    refine ⟨hl,fun q hq => ?_⟩
    obtain ⟨p,hp,x,hx,_,_,rfl⟩:=mem_outsP.1 ((hm q).1 hq)
    obtain ⟨a1,a2,a3⟩:=ih.2 p hp
    obtain ⟨b1,b2,b3⟩:=hok x hx
    refine ⟨b1,b2,?_⟩
    have:=nxT_size p x b
    omega
end Go.Proofs.YtcondkihpmmnnaaGreatDoor
namespace Go.Proofs.YtcondkihpmmnnaaGreatDoor
open Go.RowKit Go.Sort
section
variable {P:Program} {ops:Array Oper} {Q:Exit→Act→World→Prop}
structure FanInv (P:Program) (base:Act) (w:World) (ds:List Tmp) (mk:Nat→Tmp × (Value→World→Prop)) (is0 is:List Nat) (a:Act) (W:World):Prop where
 defers:a.defers = base.defers
 size:a.tmps.size = base.tmps.size
 same:∀ x,x ∉ ds→a.tmps[x]? = base.tmps[x]?
 bel:Below w.heap.size w W
 made:∀ i∈is0,i ∉ is→∃ v,a.tmps[(mk i).1]? = some v∧(mk i).2 v W
theorem fanN {base:Act} {w:World} {tail:List Oper} {ds:List Tmp} (is0:List Nat) (mk:Nat→Tmp × (Value→World→Prop)) (hds:∀ i∈is0,(mk i).1∈ds∧(mk i).1 < base.tmps.size) (hinj:∀ i∈is0,∀ j∈is0,i≠j→(mk i).1≠(mk j).1)
    (hm:∀ i∈is0,∃ o,ops[i]? = some o∧Maker P Q base w ds o (mk i).1 (mk i).2)
    (h:∀ a W,FanInv P base w ds mk is0 [] a W→wpList P ops Q tail a W) :
    ∀ (n:Nat) (is:List Nat) (a:Act) (W:World),is.length = n→is.Nodup→(∀ i∈is,i∈is0)→FanInv P base w ds mk is0 is a W →
     wpFan P ops (fun w' => ∃ p:Regrown,w' = grow (redrawn w p.d) p.os) Q tail n is a W
 | 0,is,a,W,hl,_,_,hv => by
  obtain rfl:=List.eq_nil_of_length_eq_zero hl
  exact h a W hv
 | n + 1,is,a,W,hl,hnd,hsub,hv => by
  intro i hi
  obtain ⟨o,ho,mo⟩:=hm i (hsub i hi)
  obtain ⟨hd1,hd2⟩:=hds i (hsub i hi)
  refine ⟨o,ho,mo.guard,mo.makes a W _ hv.same hv.bel fun v W' hb hF => ?_⟩
  have hb':=hv.bel.trans (hb.mono hv.bel.size)
  refine ⟨regrown_of_below hb',fanN is0 mk hds hinj hm h n (is.erase i) _ W' ?_ (hnd.erase i) (fun j hj => hsub j (List.mem_of_mem_erase hj)) ⟨hv.defers,?_,put_agrees hd1 hv.same,hb',fun j hj hjn => ?_⟩⟩
  ·rw [List.length_erase_of_mem hi]; omega
  ·show (a.tmps.setIfInBounds _ _).size = _
   rw [Array.size_setIfInBounds]; exact hv.size
  ·by_cases hji:j = i
   ·subst hji
    refine ⟨v,?_,hF⟩
    show (a.tmps.setIfInBounds (mk j).1 v)[(mk j).1]? = some v
    rw [Array.getElem?_setIfInBounds_self_of_lt (by rw [hv.size]; exact hd2)]
   ·have hjis:j ∉ is:=fun hh => hjn (List.mem_erase_of_ne hji |>.2 hh)
    obtain ⟨v0,h1,h2⟩:=hv.made j hj hjis
    refine ⟨v0,?_,(hm j hj).choose_spec.2.stays _ _ _ h2 hb⟩
    show (a.tmps.setIfInBounds (mk i).1 v)[(mk j).1]? = some v0
    rw [Array.getElem?_setIfInBounds_ne (hinj i (hsub i hi) j hj (Ne.symm hji))]
    exact h1
theorem act_eq4 {a base:Act} {d1 d2 d3 d4:Tmp} {v1 v2 v3 v4:Value} (hd:a.defers = base.defers) (hz:a.tmps.size = base.tmps.size) (hs:∀ x,x ∉ [d1,d2,d3,d4]→a.tmps[x]? = base.tmps[x]?)
    (h1:a.tmps[d1]? = some v1) (h2:a.tmps[d2]? = some v2) (h3:a.tmps[d3]? = some v3) (h4:a.tmps[d4]? = some v4):a = (((base.put (some d1) v1).put (some d2) v2).put (some d3) v3).put (some d4) v4:=by
 obtain ⟨t,df⟩:=a
 obtain ⟨t',df'⟩:=base
 simp only at hd hz hs h1 h2 h3 h4
 subst hd
 have l1:d1 < t.size:=(Array.getElem?_eq_some_iff.1 h1).1
 have l2:d2 < t.size:=(Array.getElem?_eq_some_iff.1 h2).1
 have l3:d3 < t.size:=(Array.getElem?_eq_some_iff.1 h3).1
 have l4:d4 < t.size:=(Array.getElem?_eq_some_iff.1 h4).1
 show Act.mk _ _ = Act.mk _ _
 congr 1
 apply Array.ext_getElem?
 intro x
 show t[x]? = ((((t'.setIfInBounds d1 v1).setIfInBounds d2 v2).setIfInBounds d3 v3).setIfInBounds d4 v4)[x]?
 simp only [Array.getElem?_setIfInBounds,Array.size_setIfInBounds,← hz]
 by_cases e4:d4 = x
 ·subst e4; rw [if_pos rfl,if_pos l4]; exact h4
 ·by_cases e3:d3 = x
  ·subst e3; rw [if_neg e4,if_pos rfl,if_pos l3]; exact h3
  ·by_cases e2:d2 = x
   ·subst e2; rw [if_neg e4,if_neg e3,if_pos rfl,if_pos l2]; exact h2
   ·by_cases e1:d1 = x
    ·subst e1; rw [if_neg e4,if_neg e3,if_neg e2,if_pos rfl,if_pos l1]; exact h1
    ·simp only [e4,e3,e2,e1,if_false]
     exact hs x (by simp [Ne.symm e1,Ne.symm e2,Ne.symm e3,Ne.symm e4])
theorem fan4 {base:Act} {w:World} {tail:List Oper} {i j k l:Nat} {oi oj ok ol:Oper} {d1 d2 d3 d4:Tmp} {F1 F2 F3 F4:Value→World→Prop} (hij:i≠j) (hik:i≠k) (hil:i≠l) (hjk:j≠k) (hjl:j≠l) (hkl:k≠l)
    (e12:d1≠d2) (e13:d1≠d3) (e14:d1≠d4) (e23:d2≠d3) (e24:d2≠d4) (e34:d3≠d4) (z1:d1 < base.tmps.size) (z2:d2 < base.tmps.size) (z3:d3 < base.tmps.size) (z4:d4 < base.tmps.size)
    (hi:ops[i]? = some oi) (hj:ops[j]? = some oj) (hk:ops[k]? = some ok) (hl:ops[l]? = some ol)
    (m1:Maker P Q base w [d1,d2,d3,d4] oi d1 F1) (m2:Maker P Q base w [d1,d2,d3,d4] oj d2 F2) (m3:Maker P Q base w [d1,d2,d3,d4] ok d3 F3) (m4:Maker P Q base w [d1,d2,d3,d4] ol d4 F4)
    (h:∀ v1 v2 v3 v4 W,Below w.heap.size w W→F1 v1 W→F2 v2 W→F3 v3 W→F4 v4 W→wpList P ops Q tail ((((base.put (some d1) v1).put (some d2) v2).put (some d3) v3).put (some d4) v4) W) :
    wpFan P ops (fun w' => ∃ p:Regrown,w' = grow (redrawn w p.d) p.os) Q tail 4 [i,j,k,l] base w:=by
 have key:∀ x∈[i,j,k,l],x = i∨x = j∨x = k∨x = l:=fun x hx => by simpa using hx
 let mk:Nat→Tmp × (Value→World→Prop):=fun x => if x = i then (d1,F1) else if x = j then (d2,F2) else if x = k then (d3,F3) else (d4,F4)
 have q1:mk i = (d1,F1):=if_pos rfl
 have q2:mk j = (d2,F2):=by show (if j = i then _ else _) = _; rw [if_neg (Ne.symm hij),if_pos rfl]
 have q3:mk k = (d3,F3):=by show (if k = i then _ else _) = _; rw [if_neg (Ne.symm hik),if_neg (Ne.symm hjk),if_pos rfl]
 have q4:mk l = (d4,F4):=by show (if l = i then _ else _) = _; rw [if_neg (Ne.symm hil),if_neg (Ne.symm hjl),if_neg (Ne.symm hkl)]
 refine fanN (ds:=[d1,d2,d3,d4]) [i,j,k,l] mk ?_ ?_ ?_ ?_ 4 [i,j,k,l] base w rfl ?_ (fun _ h => h) ⟨rfl,rfl,fun _ _ => rfl,Below.refl _ _,fun x hx hn => absurd hx hn⟩
 ·intro x hx
  rcases key x hx with rfl | rfl | rfl | rfl
  ·rw [q1]; exact ⟨by simp,z1⟩
  ·rw [q2]; exact ⟨by simp,z2⟩
  ·rw [q3]; exact ⟨by simp,z3⟩
  ·rw [q4]; exact ⟨by simp,z4⟩
 ·intro x hx y hy hne
  rcases key x hx with rfl | rfl | rfl | rfl <;> rcases key y hy with rfl | rfl | rfl | rfl <;> first | exact absurd rfl hne | skip
  all_goals simp only [q1,q2,q3,q4]
  all_goals first | assumption | (apply Ne.symm; assumption)
 ·intro x hx
  rcases key x hx with rfl | rfl | rfl | rfl
  ·rw [q1]; exact ⟨_,hi,m1⟩
  ·rw [q2]; exact ⟨_,hj,m2⟩
  ·rw [q3]; exact ⟨_,hk,m3⟩
  ·rw [q4]; exact ⟨_,hl,m4⟩
 ·intro a W hv
  obtain ⟨v1,a1,b1⟩:=hv.made i (by simp) (by simp)
  obtain ⟨v2,a2,b2⟩:=hv.made j (by simp) (by simp)
  obtain ⟨v3,a3,b3⟩:=hv.made k (by simp) (by simp)
  obtain ⟨v4,a4,b4⟩:=hv.made l (by simp) (by simp)
  rw [q1] at a1 b1
  rw [q2] at a2 b2
  rw [q3] at a3 b3
  rw [q4] at a4 b4
  rw [act_eq4 hv.defers hv.size hv.same a1 a2 a3 a4]
  exact h v1 v2 v3 v4 W hv.bel b1 b2 b3 b4
 ·simp [hij,hik,hil,hjk,hjl,hkl]
end
end Go.Proofs.YtcondkihpmmnnaaGreatDoor
namespace Go.Proofs.YtcondkihpmmnnaaGreatDoor
open Go.Maps (Keyed)
theorem strK:Keyed Tryz.prog 9:=Maps.string_keyed Tryz.underlying9
def Num (w:World) (b:Nat) (ks:List (List UInt8)):Prop :=
 ∃ n,∃ D:DataW Unit,w.ownsMap Tryz.prog 9 (plainElem Tryz.prog 3) b n D∧n≤ks.length∧Maps.Tidy D∧Maps.IsMap D∧Maps.size D = ks.length∧ks.Nodup ∧
  ∀ k:List UInt8,(Maps.has D (.string k) = true↔k∈ks)∧∀ i:Nat,ks[i]? = some k→D.atKey (.string k) (.lit (.int .i64 0)) = .lit (.int .i64 (i:Int))
section
variable {w w':World} {b:Nat} {ks:List (List UInt8)}
theorem Num.made (w:World):Num (w.alloc (.map #[] 0)) w.heap.size [] :=
 ⟨0,_,World.ownsMap_made w Tryz.prog 9 _,Nat.le_refl _,(World.ownsMap_made (H:=Unit) w Tryz.prog 9 (plainElem Tryz.prog 3)).tidy strK,Maps.isMap_empty,rfl,List.nodup_nil,fun k => ⟨by simp [Maps.has],fun i h => by simp at h⟩⟩
theorem Num.kept {row:Option Nat} (h:Num w b ks) (hg:w.grownBy w' row) (hne:some b≠row):Num w' b ks:=by
 obtain ⟨n,D,h1,h2⟩:=h
 exact ⟨n,D,h1.kept hg hne,h2⟩
theorem Num.below {B:Nat} (h:Num w b ks) (hb:RowKit.Below B w w') (hB:w.heap.size≤B):Num w' b ks :=
 h.kept (row:=none) ⟨hb.os,hb.tape,hb.output,hb.size,fun k hk _ => hb.block k (by omega)⟩ (by simp)
theorem Num.lt (h:Num w b ks):b < w.heap.size:=by
 obtain ⟨n,D,h1,_⟩:=h
 exact h1.lt
theorem num_put {n:Nat} {D:DataW Unit} (h2:n≤ks.length) (ht:Maps.Tidy D) (h3:Maps.IsMap D) (hz:Maps.size D = ks.length) (hd:ks.Nodup)
    (h4:∀ k:List UInt8,(Maps.has D (.string k) = true↔k∈ks)∧∀ i:Nat,ks[i]? = some k→D.atKey (.string k) (.lit (.int .i64 0)) = .lit (.int .i64 (i:Int)))
    (x:List UInt8) (hx:x ∉ ks) (hxl:Maps.has D (.string x) = false) (hk:WideAt.IsKeyLit (.string x))
    (ho:w'.ownsMap Tryz.prog 9 (plainElem Tryz.prog 3) b (n + 1) (D.put (.string x) (.lit (.int .i64 (ks.length:Int))))):Num w' b (ks ++ [x]):=by
 refine ⟨n + 1,_,ho,by rw [List.length_append,List.length_singleton]; omega,ho.tidy strK,ho.isMap,?_,?_,fun k => ?_⟩
 ·rw [Maps.size_put ht,hxl,hz,List.length_append]; rfl
 ·rw [List.nodup_append]
  exact ⟨hd,by simp,fun a ha b hb => by rw [List.mem_singleton] at hb; subst hb; exact fun e => hx (e ▸ ha)⟩
 ·by_cases e:k = x
  ·subst e
   refine ⟨by rw [Maps.has_put_same h3 hk]; simp,fun i hi => ?_⟩
   rw [Maps.atKey_put_same h3 hk]
   have:i = ks.length:=by
    rcases Nat.lt_trichotomy i ks.length with h | h | h
    ·rw [List.getElem?_append_left h] at hi
     exact absurd (List.mem_of_getElem? hi) hx
    ·exact h
    ·rw [List.getElem?_eq_none (by simp; omega)] at hi; cases hi
   rw [this]
  ·have hne:(Lit.string k)≠.string x:=fun h => e (by injection h)
   refine ⟨by rw [Maps.has_put_other hne,(h4 k).1,List.mem_append,List.mem_singleton]; simp [e],fun i hi => ?_⟩
   rw [Maps.atKey_put_other hne]
   refine (h4 k).2 i ?_
   rcases Nat.lt_or_ge i ks.length with h | h
   ·rw [List.getElem?_append_left h] at hi; exact hi
   ·rw [List.getElem?_append_right h] at hi
    rcases Nat.eq_zero_or_pos (i - ks.length) with h0 | h0
    ·rw [h0] at hi; simp at hi; exact absurd hi.symm e
    ·rw [List.getElem?_eq_none (by simp; omega)] at hi; cases hi
end
end Go.Proofs.YtcondkihpmmnnaaGreatDoor
namespace Go.Proofs.YtcondkihpmmnnaaGreatDoor
open Go.RowKit
theorem St.both_w (s t:St) (h:StW s) (_h':StW t):StW (s.both t) :=
 ⟨Nat.lt_of_le_of_lt Nat.and_le_left h.1,Nat.lt_of_le_of_lt Nat.and_le_left h.2.1,Nat.lt_of_le_of_lt Nat.and_le_left h.2.2.1,Nat.lt_of_le_of_lt Nat.and_le_left h.2.2.2⟩
theorem bothS_any (s t:St) (h:StW s) (h':StW t) (w:World) :
    Calls Tryz.prog 58 #[.agg #[.int .u64 (s.a:Int),.int .u64 (s.b:Int),.int .u64 (s.c:Int),.int .u64 (s.d:Int)],.agg #[.int .u64 (t.a:Int),.int .u64 (t.b:Int),.int .u64 (t.c:Int),.int .u64 (t.d:Int)]] w
     (Gives (.agg #[.int .u64 ((s.both t).a:Int),.int .u64 ((s.both t).b:Int),.int .u64 ((s.both t).c:Int),.int .u64 ((s.both t).d:Int)]) w):=by
 obtain ⟨e1,e2,e3,e4⟩:=St.word_m s h
 obtain ⟨f1,f2,f3,f4⟩:=St.word_m t h'
 obtain ⟨g1,g2,g3,g4⟩:=St.word_m (s.both t) (St.both_w s t h h')
 have hm:∀ k,(s.both t).m k = sBoth s.m t.m k:=fun k => St.both_m s t k
 have hm2:(s.both t).m = sBoth s.m t.m:=funext hm
 have:=both_any s.m t.m w
 rw [← hm2] at this
 rw [← e1,← e2,← e3,← e4,← f1,← f2,← f3,← f4,← g1,← g2,← g3,← g4] at this
 exact this
theorem neqS (s:St) (W:World):(binOp .neq 58 (.agg #[.int .u64 (s.a:Int),.int .u64 (s.b:Int),.int .u64 (s.c:Int),.int .u64 (s.d:Int)]) (.agg #[.int .u64 0,.int .u64 0,.int .u64 0,.int .u64 0])).run Tryz.prog W = .ok (.bool (decide (s≠St.none))) W:=by
 rw [neq_words W]
 congr 2
 rw [Bool.eq_iff_iff]
 obtain ⟨s1,s2,s3,s4⟩:=s
 simp [St.none]
end Go.Proofs.YtcondkihpmmnnaaGreatDoor
namespace Go.Proofs.YtcondkihpmmnnaaGreatDoor
open Go.RowKit Go.Sort
def FewPost (n:Nat) (w:World) (e:Ending) (w':World):Prop:=∃ b,e = .returned (.bool b)∧Below w.heap.size w w'∧(b = true→n≤12)
set_option maxRecDepth 100000 in
set_option maxHeartbeats 4000000 in
theorem few_any (q:SeqM) (v:Value) (B:Nat) (w:World) (HS:SeqAt w B q v) (hB:B≤w.heap.size) :
    Calls Tryz.prog 6 #[v] w (FewPost q.next.length w):=by
 obtain ⟨A1,c1,A2,c2,A3,c3,A4,c4,rfl,hf,l1,l2,l3,l4,m1,m2,m3,m4,R1,hz,R2,hsz,R3,R4,htl⟩:=HS
 have HSz:=Lib.hid hsz
 have HR2:=Lib.hid R2
 have HP:=Lib.hid (fun (b:Bool) (W:World) (h:Below w.heap.size w W) (hn:b = true→q.next.length≤12) => show FewPost q.next.length w (.returned (.bool b)) W from ⟨b,rfl,h,hn⟩)
 clear R1 R2 R3 R4 hz hsz htl l1 l3 l4
 unfold maxLen at *
 have K:=Blk.new w 27 #[.string q.front,.slice A1 q.next.length c1,.slice A2 q.outs.length c2,.slice A3 q.ends.length c3,.slice A4 q.tail.length c4]
 have LB:=(Below.refl w.heap.size w).alloc (Nat.le_refl _) (.cells #[.string q.front,.slice A1 q.next.length c1,.slice A2 q.outs.length c2,.slice A3 q.ends.length c3,.slice A4 q.tail.length c4] 27)
 generalize q.front = fr at *
 generalize q.next.length = n1 at *
 generalize hn2:q.outs.length = n2 at *
 generalize q.ends.length = n3 at *
 generalize q.tail.length = n4 at *
 have Hn2:=Lib.hid hn2
 have k0:=K.cell 0
 have k1:=K.cell 1
 have k2:=K.cell 2
 clear hn2
 go_enter Tryz.func6,Tryz.ntmps6
 by_cases d1:(12:Int) < (n1:Int)
 ·go_wp2
  exact bodyPost_ret (v:=.bool false) (by simp [results,Tryz.results6,go_sem]) rfl (HP.out _ _ LB (fun h => by cases h))
 by_cases d2:(13:Int) < (n2:Int)
 ·go_wp2
  exact bodyPost_ret (v:=.bool false) (by simp [results,Tryz.results6,go_sem]) rfl (HP.out _ _ LB (fun h => by cases h))
 by_cases d3:(5000:Int) < (fr.size:Int)
 ·go_wp2
  exact bodyPost_ret (v:=.bool false) (by simp [results,Tryz.results6,go_sem]) rfl (HP.out _ _ LB (fun h => by cases h))
 go_wp2
 have HK:=Lib.hid (And.intro K LB)
 clear K LB k0 k1 k2
 go_loopw [3] (fun i wr => ∃ s:Nat,s≤n2∧i = .int .i64 (s:Int)∧Blk wr w.heap.size 27 #[.string fr,.slice A1 n1 c1,.slice A2 n2 c2,.slice A3 n3 c3,.slice A4 n4 c4]∧Below w.heap.size w wr) (fun i _ => n2 - (intOf i).toNat)
 case atStart => exact ⟨0,Nat.zero_le _,rfl,HK.out.1,HK.out.2⟩
 case round =>
  clear HK
  obtain ⟨s,hs,rfl,hK,hb⟩:=hrel
  have k2:=hK.cell 2
  by_cases hlt:s < n2
  ·have hi1:(0:Int)≤(s:Int):=by omega
   have hi2:(s:Int) < (n2:Int):=by omega
   obtain ⟨g2,o2,A2',d2',rfl,hg2,x2,Q2,y2,z2⟩:=HR2.out.at_ s hlt
   have en2:(q.outs.map fun r => r.map Value.string).getD s [] = (q.outs.getD s []).map Value.string:=by
    rw [List.getD_eq_getElem?_getD,List.getD_eq_getElem?_getD,List.getElem?_map]
    cases q.outs[s]? <;> rfl
   rw [en2] at x2 Q2 y2
   simp only [List.length_map] at x2 Q2 y2
   have hrm:q.outs.getD s []∈q.outs:=by
    rw [List.getD_eq_getElem?_getD,List.getElem?_eq_getElem (by rw [Hn2.out]; exact hlt)]
    exact List.getElem_mem _
   have x2':=(hb.cell (p:=⟨g2,o2 + s,none⟩) (by show g2 < _; omega)).trans x2
   have HQ:=Lib.hid (fun (W:World) (hb:Below w.heap.size w W) => Q2.below (hb.mono hB))
   have HX:=Lib.hid (fun (W:World) (hb:Below w.heap.size w W) => (hb.cell (p:=⟨g2,o2 + s,none⟩) (by show g2 < _; omega)).trans x2)
   have HKb:=Lib.hid (And.intro hK hb)
   generalize hrow:q.outs.getD s [] = row at *
   generalize hrl:row.length = rl at *
   have Hrl:=Lib.hid hrl
   clear hrow hrl hrm en2 Q2 x2 hK
   by_cases d4:(300:Int) < (rl:Int)
   ·go_wp2
    exact bodyPost_ret (v:=.bool false) (by simp [results,Tryz.results6,go_sem]) rfl (HP.out _ _ hb (fun h => by cases h))
   ·clear hb
    go_wp2
    clear k2 x2'
    go_loopw [4,5] (fun a i wr => ∃ (m:Int) (b:Nat),b≤rl∧i = .int .i64 (b:Int)∧a = .int .i64 m∧Blk wr w.heap.size 27 #[.string fr,.slice A1 n1 c1,.slice (some ⟨g2,o2,none⟩) n2 c2,.slice A3 n3 c3,.slice A4 n4 c4]∧Below w.heap.size w wr) (fun _ i _ => rl - (intOf i).toNat)
    case atStart => exact ⟨0,0,Nat.zero_le _,rfl,rfl,HKb.out.1,HKb.out.2⟩
    case round =>
     clear HKb
     obtain ⟨m,b,hbl,rfl,rfl,hK,hb⟩:=hrel
     have k2:=hK.cell 2
     have x2':=HX.out wr hb
     by_cases hltb:b < rl
     ·have hb1:(0:Int)≤(b:Int):=by omega
      have hb2:(b:Int) < (rl:Int):=by omega
      obtain ⟨h1,q1',rfl,hh1,r1⟩:=cell_at (d:=ByteArray.empty) (HQ.out wr hb) b hltb
      have HKb:=Lib.hid (And.intro hK hb)
      generalize row.getD b ByteArray.empty = x at *
      clear hK hb
      go_wp2
      go_roundw
      case rel => exact ⟨_,b + 1,by omega,by go_num,rfl,HKb.out.1,HKb.out.2⟩
      case measure => simp [intOf]; omega
     ·obtain rfl:rl = b:=by omega
      by_cases d5:(20000:Int) < m
      ·clear hK
       go_wp2
       exact bodyPost_ret (v:=.bool false) (by simp [results,Tryz.results6,go_sem]) rfl (HP.out _ _ hb (fun h => by cases h))
      ·have HKb:=Lib.hid (And.intro hK hb)
       clear hK hb
       go_wp2
       go_roundw
       case rel => exact ⟨s + 1,by omega,by go_num,HKb.out.1,HKb.out.2⟩
       case measure => simp [intOf]; omega
  ·obtain rfl:n2 = s:=by omega
   clear hK
   go_wp2
   exact bodyPost_ret (v:=.bool true) (by simp [results,Tryz.results6,go_sem]) rfl (HP.out _ _ hb (fun _ => by omega))
end Go.Proofs.YtcondkihpmmnnaaGreatDoor
namespace Go.Proofs.YtcondkihpmmnnaaGreatDoor
open Go.RowKit Go.Sort
theorem eval_agrees {act base:Act} {ds:List Tmp} (h:∀ x,x ∉ ds→act.tmps[x]? = base.tmps[x]?) (t:Tmp) (ht:t ∉ ds):act.eval (.tmp t) = base.eval (.tmp t):=by
 have:=h t ht
 unfold Act.eval
 simp only [this,Array.getD_eq_getD_getElem?]
section
variable {Q:Exit→Act→World→Prop} {base:Act} {w:World} {ds:List Tmp} {o:Oper} {d:Tmp}
theorem maker_slice (hd:o.dst = some d) (hg:o.guard = none) (l:Tmp) (hld:l ∉ ds) (t:TypeId) (hop:o.op = Op.makeSlice t (.tmp l) (.tmp l))
    (e:TypeId) (i:TypeInfo) (z:Value) (size:Nat) (h1:Tryz.prog.underlying t = some (.slice e)) (h2:Tryz.prog.info? e = some i) (h3:i.zero = some z) (h4:i.size = size)
    (n:Nat) (hl:base.eval (.tmp l) = .int .i64 (n:Int)) (b2:i.bytes * n≤281474976710656) (b3:n≤maxLen) :
    Maker Tryz.prog Q base w ds o d (fun v W => ∃ g,v = .slice (some ⟨g,0,none⟩) n n∧w.heap.size≤g∧W.ownsRow w.heap.size e size v n (madeCells z.cells (n * size)).toList):=by
 refine ⟨hd,hg,?_,?_⟩
 ·rintro v W W' ⟨g,rfl,hgz,ho⟩ hb
  exact ⟨g,rfl,hgz,own_below ho hb⟩
 ·intro act W K hag hb hK
  have hl':act.eval (.tmp l) = .int .i64 (n:Int):=(eval_agrees hag l hld).trans hl
  obtain ⟨w',hrun,r1,r2⟩:=run_make_full (P:=Tryz.prog) W w.heap.size t e i z size h1 h2 h3 h4 .i64 .i64 n b2 b3 hb.size
  unfold Oper.wp
  simp [execOp,hop,hl',hrun,Result.andThen]
  show K (act.put o.dst _) _
  rw [hd]
  exact hK _ _ ((Below.refl _ W).grown r2 (Nat.le_refl _) (fun k e => by cases e)) ⟨W.heap.size,rfl,hb.size,r1⟩
theorem maker_map {α:Type} {T:TypeId} {enc:α→List Value} {ok:α→Prop} (hd:o.dst = some d) (hg:o.guard = none) (t:TypeId) (hop:o.op = Op.makeMap t none) :
    Maker Tryz.prog Q base w ds o d (fun v W => ∃ g,v = .map (some g)∧w.heap.size≤g∧Seen T enc ok W g []):=by
 refine ⟨hd,hg,?_,?_⟩
 ·rintro v W W' ⟨g,rfl,hgz,ho⟩ hb
  exact ⟨g,rfl,hgz,ho.below hb (Nat.le_refl _)⟩
 ·intro act W K hag hb hK
  have hrun:=@run_makeMap Tryz.prog
  unfold Oper.wp
  simp [execOp,hop,hrun,Result.andThen]
  show K (act.put o.dst _) _
  rw [hd]
  exact hK _ _ ((Below.refl _ W).alloc (Nat.le_refl _) _) ⟨W.heap.size,rfl,hb.size,Seen.made W⟩
theorem maker_call {F:Value→World→Prop} (hd:o.dst = some d) (hg:o.guard = none) (x:Tmp) (hx:x ∉ ds) (f:FuncId) (ts:Array TypeId) (hop:o.op = Op.call { callee:=.value (.func f),args:=#[.tmp x],argTypes:=ts })
    (he:∀ args W,(callFunc f args).run Tryz.prog W = .ok (.enter f args) W) (hs:∀ v W W',F v W→Below W.heap.size W W'→F v W')
    (h:∀ W,Below w.heap.size w W→Calls Tryz.prog f #[base.eval (.tmp x)] W fun e W' => ∃ v,e = .returned v∧Below W.heap.size W W'∧F v W') :
    Maker Tryz.prog Q base w ds o d F:=by
 refine ⟨hd,hg,hs,?_⟩
 intro act W K hag hb hK
 have hl':act.eval (.tmp x) = base.eval (.tmp x):=eval_agrees hag x hx
 have hf:act.eval (.func f) = .func (.func f) #[] #[]:=rfl
 unfold Oper.wp execOp
 simp only [hop,resolve,invoke,Sem.run_bind,List.map_toArray,List.map_cons,List.map_nil,hl',hf]
 have hdv:(Deferred.ofValue (Value.func (Fn.func f) #[] #[]) #[base.eval (.tmp x)]).run Tryz.prog W = .ok { target:=.fn (.func f) #[],args:=#[base.eval (.tmp x)] } W:=by rfl
 rw [hdv,Result.andThen_ok]
 simp only [Array.append_empty,he]
 rw [Oper.upon_enter]
 refine (h W hb).mono ?_
 rintro e W' ⟨v,rfl,hb2,hF⟩
 show K (act.put o.dst v) W'
 rw [hd]
 exact hK _ _ hb2 hF
end
end Go.Proofs.YtcondkihpmmnnaaGreatDoor
namespace Go.Proofs.YtcondkihpmmnnaaGreatDoor
open Go.RowKit Go.Sort
section
variable {K:Act→World→Prop} {Q:Exit→Act→World→Prop} {a:Act} {W:World} {o:Oper}
theorem op_make (l:Tmp) (t:TypeId) (hop:o.op = Op.makeSlice t (.tmp l) (.tmp l)) (base:Nat)
    (e:TypeId) (i:TypeInfo) (z:Value) (size:Nat) (h1:Tryz.prog.underlying t = some (.slice e)) (h2:Tryz.prog.info? e = some i) (h3:i.zero = some z) (h4:i.size = size)
    (n:Nat) (hl:a.eval (.tmp l) = .int .i64 (n:Int)) (b2:i.bytes * n≤281474976710656) (b3:n≤maxLen) (hb:base≤W.heap.size)
    (hK:∀ W',W'.ownsRow base e size (.slice (some ⟨W.heap.size,0,none⟩) n n) n (madeCells z.cells (n * size)).toList→Below W.heap.size W W'→K (a.put o.dst (.slice (some ⟨W.heap.size,0,none⟩) n n)) W'):o.wp Tryz.prog a W K Q:=by
 obtain ⟨w',hrun,r1,r2⟩:=run_make_full (P:=Tryz.prog) W base t e i z size h1 h2 h3 h4 .i64 .i64 n b2 b3 hb
 unfold Oper.wp
 simp [execOp,hop,hl,hrun,Result.andThen]
 exact hK _ r1 ((Below.refl _ W).grown r2 (Nat.le_refl _) (fun k e => by cases e))
theorem op_makeC (x:Value) (t:TypeId) (hop:o.op = Op.makeSlice t (.const x) (.const x)) (base:Nat)
    (e:TypeId) (i:TypeInfo) (z:Value) (size:Nat) (h1:Tryz.prog.underlying t = some (.slice e)) (h2:Tryz.prog.info? e = some i) (h3:i.zero = some z) (h4:i.size = size)
    (n:Nat) (hl:x = .int .i64 (n:Int)) (b2:i.bytes * n≤281474976710656) (b3:n≤maxLen) (hb:base≤W.heap.size)
    (hK:∀ W',W'.ownsRow base e size (.slice (some ⟨W.heap.size,0,none⟩) n n) n (madeCells z.cells (n * size)).toList→Below W.heap.size W W'→K (a.put o.dst (.slice (some ⟨W.heap.size,0,none⟩) n n)) W'):o.wp Tryz.prog a W K Q:=by
 obtain ⟨w',hrun,r1,r2⟩:=run_make_full (P:=Tryz.prog) W base t e i z size h1 h2 h3 h4 .i64 .i64 n b2 b3 hb
 have hx:a.eval (.const x) = .int .i64 (n:Int):=hl
 unfold Oper.wp
 simp [execOp,hop,hx,hrun,Result.andThen]
 exact hK _ r1 ((Below.refl _ W).grown r2 (Nat.le_refl _) (fun k e => by cases e))
theorem op_alloc (T:TypeId) (z:Value) (hop:o.op = Op.alloc T)
    (hrun:∀ W,(Instr.alloc T true (.tuple #[])).run Tryz.prog W = .ok (.pointer (some ⟨W.heap.size,0,none⟩)) (W.alloc (.cells #[z] T)))
    (hK:K (a.put o.dst (.pointer (some ⟨W.heap.size,0,none⟩))) (W.alloc (.cells #[z] T))):o.wp Tryz.prog a W K Q:=by
 unfold Oper.wp
 simp [execOp,hop,hrun,Result.andThen]
 exact hK
theorem setRow_one {W:World} {g:Nat} {T:TypeId} {u:Value} (hb:Blk W g T #[u]) (v:Value):W.setRow g #[v] = W.setCell ⟨g,0,none⟩ v:=by
 unfold World.setRow World.setCell
 congr 1
 apply Array.ext_getElem?
 intro k
 simp only [Array.getElem?_modify]
 by_cases hk:g = k
 ·subst hk
  unfold Blk at hb
  simp [hb]
 ·simp [hk]
theorem op_store (T:TypeId) (x y:Operand) (hop:o.op = Op.store T x y) (g:Nat) (v u:Value) (hx:a.eval x = .pointer (some ⟨g,0,none⟩)) (hy:a.eval y = v)
    (hi:(Tryz.prog.info? T).map (·.size) = some 1) (h1:v.oneCell' = true) (hb:Blk W g T #[u])
    (hK:K (a.put o.dst undef) (W.setCell ⟨g,0,none⟩ v)):o.wp Tryz.prog a W K Q:=by
 have hs:=run_storeVar_one (P:=Tryz.prog) W g T T u v hb hi h1
 rw [setRow_one hb] at hs
 unfold Oper.wp execOp
 simp only [hop,hx,hy,Instr.storeAt,Instr.sureAddr,Sem.run_bind,Sem.run_pure,Result.andThen_ok,hs]
 exact hK
end
theorem put_same {a:Act} {d:Tmp} (h:d < a.tmps.size) (v:Value):(a.put (some d) v).tmps[d]? = some v:=by
 show (a.tmps.setIfInBounds d v)[d]? = some v
 rw [Array.getElem?_setIfInBounds_self_of_lt h]
theorem put_other {a:Act} {d x:Tmp} (h:d≠x) (v:Value):(a.put (some d) v).tmps[x]? = a.tmps[x]?:=by
 show (a.tmps.setIfInBounds d v)[x]? = _
 rw [Array.getElem?_setIfInBounds_ne h]
theorem put_size {a:Act} {d:Tmp} (v:Value):(a.put (some d) v).tmps.size = a.tmps.size:=by
 show (a.tmps.setIfInBounds d v).size = _
 rw [Array.size_setIfInBounds]
theorem eval_tmp {a:Act} {x:Tmp} {v:Value} (h:a.tmps[x]? = some v):a.eval (.tmp x) = v:=by
 unfold Act.eval
 simp only [Array.getD_eq_getD_getElem?,h,Option.getD_some]
end Go.Proofs.YtcondkihpmmnnaaGreatDoor
namespace Go.Proofs.YtcondkihpmmnnaaGreatDoor
open Go.RowKit Go.Sort
theorem bld_below {B b:Nat} {bs:List Value} {w w':World} (h:BldF B b bs w) (hb:Below w.heap.size w w'):BldF B b bs w':=by
 have key:∀ p,Lib.BuilderAtF 83 5 B b p bs w→Lib.BuilderAtF 83 5 B b p bs w':=by
  rintro p ⟨h1,v,h2,⟨h3,h4⟩,h5⟩
  have lt:∀ g o,w.heap[g]? = some o→w'.heap[g]? = some o:=fun g o hg => by
   have:g < w.heap.size:=by
    rcases Nat.lt_or_ge g w.heap.size with h | h
    ·exact h
    ·rw [Array.getElem?_eq_none h] at hg; cases hg
   exact (hb.block g this).trans hg
  refine ⟨h1,v,lt _ _ h2,⟨h3,?_⟩,h5⟩
  rcases h4 with h | ⟨g,cap,cur,fz,a1,a2,a3,a4⟩
  ·exact .inl h
  ·exact .inr ⟨g,cap,cur,fz,a1,a2,lt _ _ a3,a4⟩
 rcases h with h | h
 ·exact .inl (key _ h)
 ·exact .inr (key _ h)
theorem bld_lt {B b:Nat} {bs:List Value} {w:World} (h:BldF B b bs w):b < w.heap.size:=by
 rcases h with h | h <;> exact h.lt
structure AppW (w wr:World) (cs:Array Value) (b:Nat) (acc:List UInt8):Prop where
 box:Blk wr w.heap.size 27 cs
 bld:BldF b b (Lib.byteCells acc) wr
 gt:w.heap.size < b
 bel:Below w.heap.size w wr
theorem AppW.call {w wr w':World} {cs:Array Value} {b:Nat} {acc:List UInt8} (h:AppW w wr cs b acc) (hb:Below wr.heap.size wr w'):AppW w w' cs b acc :=
 have h1:=bld_lt h.bld
 have h2:=h.gt
 ⟨h.box.below hb (by omega),bld_below h.bld hb,h.gt,h.bel.trans (hb.mono (by omega))⟩
theorem AppW.write {w wr w':World} {cs:Array Value} {b:Nat} {acc:List UInt8} (h:AppW w wr cs b acc) (s:ByteArray) (hs:BldF b b (Lib.byteCells acc ++ Lib.strCells s) w') (hb:Below b wr w'):AppW w w' cs b (acc ++ bl s) :=
 ⟨h.box.below hb h.gt,by rw [Lib.byteCells_append]; exact hs,h.gt,h.bel.trans (hb.mono (Nat.le_of_lt h.gt))⟩
def ApplyPost (q:SeqM) (t:ByteArray) (w:World) (e:Ending) (w':World):Prop :=
 ∃ (o:ByteArray) (k:Int) (b:Bool) (r:Int),e = .returned (.tuple #[.string o,.int .i64 k,.bool b,.int .i64 r])∧Below w.heap.size w w'∧o.size≤4096 * (t.size + 2) ∧
  (ckB q = false→r = 1)∧(ckB q = true→r = 0∧q.run (bl t) = if b = true then some (bl o) else none)∧(b = false→o = ByteArray.empty)
theorem apply_no {q:SeqM} {t:ByteArray} {w w':World} (k:Int) (hb:Below w.heap.size w w') (h1:ckB q = true) (h2:q.run (bl t) = none):ApplyPost q t w (.returned (.tuple #[.string ByteArray.empty,.int .i64 k,.bool false,.int .i64 0])) w' :=
 ⟨_,k,false,0,rfl,hb,Nat.zero_le _,(fun h => by rw [h1] at h; cases h),(fun _ => ⟨rfl,h2⟩),(fun _ => rfl)⟩
theorem runL_cons (q:SeqM) (s:Nat) (b:UInt8) (l:List UInt8):q.runL s (b :: l) = if q.nx s b.toNat < 0 then none else (q.runL (q.nx s b.toNat).toNat l).map ((q.os s b.toNat).data.toList ++ ·):=rfl
theorem runL_nil (q:SeqM) (s:Nat):q.runL s [] = if q.en s = true then some (q.tl s).data.toList else none:=rfl
theorem drop_at (t:ByteArray) (k:Nat) (h:k < t.size):(bl t).drop k = t[k] :: (bl t).drop (k + 1):=by
 have:=List.drop_eq_getElem_cons (l:=bl t) (i:=k) h
 rw [this]
 rfl
theorem ck_sizes {q:SeqM} (h:ckB q = true):∀ s,s < q.next.length→(q.tl s).size≤4096∧∀ b,b < 256→q.nx s b < q.next.length∧(q.os s b).size≤4096:=by
 unfold ckB at h
 simp only [Bool.and_eq_true,Bool.or_eq_true,decide_eq_true_eq,List.all_eq_true] at h
 obtain ⟨_,h7⟩:=h
 intro s hs
 have:=h7 s (List.mem_range.2 hs)
 unfold stB rowB entB at this
 simp only [Bool.and_eq_true,Bool.or_eq_true,decide_eq_true_eq,List.all_eq_true] at this
 obtain ⟨⟨a1,_⟩,_,a3⟩:=this
 refine ⟨a1,fun b hb => ?_⟩
 obtain ⟨⟨⟨_,b2⟩,b3⟩,_⟩:=a3 b (List.mem_range.2 hb)
 exact ⟨b2,b3⟩
end Go.Proofs.YtcondkihpmmnnaaGreatDoor
