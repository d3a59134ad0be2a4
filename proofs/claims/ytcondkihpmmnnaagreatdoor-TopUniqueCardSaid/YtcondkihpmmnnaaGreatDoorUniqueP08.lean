/- Lemmas, part 8 of 39. No condition. -/
import Derived.Test.YtcondkihpmmnnaaGreatDoorUniqueP06
import Derived.Test.YtcondkihpmmnnaaGreatDoorUniqueP05
import Derived.Maps.OwnSet
import Derived.Test.YtcondkihpmmnnaaGreatDoorUniqueP03
namespace Go.Proofs.YtcondkihpmmnnaaGreatDoor
open Go.Maps (Keyed)
def Seen {α:Type} (T:TypeId) (enc:α→List Value) (ok:α→Prop) (w:World) (b:Nat) (l:List α):Prop :=
 ∃ n,∃ D:DataW Unit,w.ownsMap Tryz.prog T unitElem b n D∧n≤l.length∧Maps.IsMap D∧∀ q,ok q→∀ kl,keyOf Tryz.prog T (.agg (enc q).toArray) = some kl→(Maps.has D kl = true↔q∈l)
section
variable {α:Type} {T:TypeId} {enc:α→List Value} {ok:α→Prop} {w w':World} {b:Nat} {l:List α}
theorem Seen.made (w:World):Seen T enc ok (w.alloc (.map #[] 0)) w.heap.size [] :=
 ⟨0,_,World.ownsMap_made w Tryz.prog T unitElem,Nat.le_refl _,Maps.isMap_empty,fun q _ kl _ => by simp [Maps.has]⟩
theorem Seen.kept {row:Option Nat} (h:Seen T enc ok w b l) (hg:w.grownBy w' row) (hne:some b≠row):Seen T enc ok w' b l:=by
 obtain ⟨n,D,h1,h2,h3,h4⟩:=h
 exact ⟨n,D,h1.kept hg hne,h2,h3,h4⟩
theorem seen_put {n:Nat} {D:DataW Unit} (K:Keyed Tryz.prog T) (hinj:∀ x y,(enc x).toArray = (enc y).toArray→x = y) (h2:n≤l.length) (h3:Maps.IsMap D) (h4:∀ q,ok q→∀ kl,keyOf Tryz.prog T (.agg (enc q).toArray) = some kl→(Maps.has D kl = true↔q∈l)) (x:α) {kl:Lit} (hk:keyOf Tryz.prog T (.agg (enc x).toArray) = some kl)
    (ho:w'.ownsMap Tryz.prog T unitElem b (n + 1) (D.put kl (.agg []))):Seen T enc ok w' b (l ++ [x]):=by
 refine ⟨n + 1,_,ho,by rw [List.length_append,List.length_singleton]; omega,?_,fun q hq kq hkq => ?_⟩
 ·obtain ⟨es,rfl⟩:=h3
  exact ⟨_,rfl⟩
 ·rw [List.mem_append,List.mem_singleton]
  by_cases e:kq = kl
  ·subst e
   rw [Maps.has_put_same h3 (K.key hk)]
   have:=K.inj hkq hk
   injection this with h
   have:=hinj _ _ h
   exact ⟨fun _ => .inr this,fun _ => rfl⟩
  ·rw [Maps.has_put_other e,h4 q hq kq hkq]
   refine ⟨.inl,fun h => h.resolve_right fun he => ?_⟩
   subst he
   exact e (Option.some.inj (hkq.symm.trans hk))
theorem Seen.below {B:Nat} (h:Seen T enc ok w b l) (hb:RowKit.Below B w w') (hB:w.heap.size≤B):Seen T enc ok w' b l:=by
 have hz:=hb.size
 refine h.kept (row:=none) ⟨hb.os,hb.tape,hb.output,hb.size,fun k hk _ => hb.block k (by omega)⟩ (by simp)
end
theorem encT_inj (x y:Tp) (h:(encT x).toArray = (encT y).toArray):x = y:=by
 obtain ⟨a,b⟩:=x
 obtain ⟨c,d⟩:=y
 simp [encT] at h
 rw [h.1,h.2]
theorem encA_inj (x y:Ar) (h:(encA x).toArray = (encA y).toArray):x = y:=by
 obtain ⟨a,b,⟨c1,c2,c3,c4⟩,d,e⟩:=x
 obtain ⟨a',b',⟨c1',c2',c3',c4'⟩,d',e'⟩:=y
 simp [encA] at h
 obtain ⟨h1,h2,h3,h4,h5,h6,h7,h8⟩:=h
 have h3:=Int.ofNat.inj h3
 have h4:=Int.ofNat.inj h4
 have h5:=Int.ofNat.inj h5
 have h6:=Int.ofNat.inj h6
 rw [h1,h2,h3,h4,h5,h6,h7,h8]
end Go.Proofs.YtcondkihpmmnnaaGreatDoor
namespace Go.Proofs.YtcondkihpmmnnaaGreatDoor
open Go.RowKit Go.Sort
section
variable {P:Program} {ops:Array Oper} {md:Region.Mode} {S:World→Prop} {Q:Exit→Act→World→Prop}
def wpFan (P:Program) (ops:Array Oper) (S:World→Prop) (Q:Exit→Act→World→Prop) (tail:List Oper):Nat→List Nat→Act→World→Prop
 | 0,_,a,w => wpList P ops Q tail a w
 | n + 1,is,a,w => ∀ i∈is,∃ o,ops[i]? = some o∧o.guard = none∧o.wp P a w (fun a' w' => S w'∧wpFan P ops S Q tail n (is.erase i) a' w') Q
def fanB (md:Region.Mode) (ops:Array Oper) (n g:Nat):Nat→List Nat→Array Bool→Bool
 | 0,_,listed => Region.seqB md ops g n listed
 | k + 1,is,listed => decide (Region.ready md ops listed = is) && !is.isEmpty && is.all fun i => decide (i < n) && fanB md ops n g k (is.erase i) (listed.setIfInBounds i true)
theorem headH_fan {n g:Nat} {tail:List Oper} (hL:(ops.toList.drop n) = tail) :
    ∀ (k:Nat) (is:List Nat) (listed:Array Bool) (a:Act) (w:World),fanB md ops n g k is listed = true→wpFan P ops S Q tail k is a w →
    headH P md ops Q S n (fun listed' a' w' => Region.seqB md ops g n listed' = true∧wpList P ops Q tail a' w') k listed a w
 | 0,_,_,_,_,hB,h => ⟨hB,h⟩
 | k + 1,is,listed,a,w,hB,h => by
  simp only [fanB,Bool.and_eq_true,decide_eq_true_eq,List.all_eq_true] at hB
  obtain ⟨⟨hr,hne⟩,hall⟩:=hB
  refine ⟨by rw [hr]; intro e; rw [e] at hne; simp at hne,fun j hj => ?_⟩
  rw [hr] at hj
  obtain ⟨hjn,hjB⟩:=hall j hj
  obtain ⟨o,ho,hg,hw⟩:=h j hj
  refine ⟨hjn,?_⟩
  unfold wpOp
  simp only [ho]
  have hwa:Region.wanted o (yielded ops a.tmps) = true:=by simp [Region.wanted,hg]
  rw [if_pos hwa]
  exact .inl (Oper.wp_mono (fun a' w' h' => ⟨h'.1,headH_fan hL k _ _ a' w' hjB h'.2⟩) hw)
def holdFanB (md:Region.Mode) (ops:Array Oper) (n:Nat) (qs is:List Nat):Bool :=
 Region.noSelect ops && decide (n < ops.size) && Region.sinkB md ops n && Region.chainB md ops n && takesB md ops n qs (Array.replicate ops.size false) &&
  fanB md ops n (ops.size - n) is.length is (listedBy qs (Array.replicate ops.size false))
theorem wp_region_fan {id:Nat} {a:Act} {w:World} {l:List Oper} (S:World→Prop) (n:Nat) (qs is:List Nat) (lq:List Oper) (hm:P.follows .mixedOrders = true) (hB:holdFanB .any l.toArray n qs is = true)
    (hlen:qs.length + is.length = n) (hq:qs.map (fun i => l.toArray[i]?) = lq.map some)
    (hQ:∀ c a d v w,Q (.panic c) (a.put d v) w→Q (.panic c) a w) (hS:S w.drew)
    (h:wpQuiet P l.toArray S (fun a' => wpFan P l.toArray S Q (l.drop n) is.length is a' w.drew) lq a):(Code.region id l.toArray true).wp P Q a w:=by
 simp only [holdFanB,Bool.and_eq_true,decide_eq_true_eq] at hB
 obtain ⟨⟨⟨⟨⟨hsel,hn⟩,hs⟩,hc⟩,htk⟩,hfc⟩:=hB
 have hdl:(l.drop n).length = l.toArray.size - n:=by simp
 have inv0:HeadInv .any l.toArray n (Array.replicate l.toArray.size false) :=
  ⟨by simp,fun j oj _ hl => (by rw [getD_replicate_false] at hl; cases hl),fun t _ ht => getD_in (by simpa using ht) (getD_replicate_false _ _)⟩
 have H:=headH_take (P:=P) (S:=S) (md:=.any) (g:=l.toArray.size - n) (tail:=l.drop n) (m:=is.length) hsel hs hc hn hQ hS (fun a' ha' => headH_fan rfl is.length is _ a' _ hfc ha') qs lq _ a hq inv0 htk rfl h
 refine wp_region_any hm ?_
 have:=any_of_headH (P:=P) (S:=S) (g:=l.toArray.size - n) (fun listed a' w' hL => by
  have:=wpAny_of_seq (md:=.any) (Q':=Q) (l.drop n) n listed a' w' (fun j => by simp [List.getElem?_drop]) (by rw [hdl]; exact hL.1) hL.2
  rwa [hdl] at this) _ _ _ _ H
 have hn':n < l.toArray.size:=hn
 rw [hlen,show n + (l.toArray.size - n) = l.toArray.size by omega] at this
 exact this
theorem wp_region_fan_below {id:Nat} {a:Act} {w:World} {l:List Oper} (n:Nat) (qs is:List Nat) (hm:P.follows .mixedOrders = true) (hB:holdFanB .any l.toArray n qs is = true)
    (hlen:qs.length + is.length = n) (hin:(qs.all fun i => decide (i < l.length)) = true)
    (h:wpQuiet P l.toArray (fun w' => ∃ p:Regrown,w' = grow (redrawn w p.d) p.os) (fun a' => wpFan P l.toArray (fun w' => ∃ p:Regrown,w' = grow (redrawn w p.d) p.os) (NoPanic Q) (l.drop n) is.length is a' w.drew) (pickOps l qs) a) :
    (Code.region id l.toArray true).wp P Q a w:=by
 refine wp_region_noPanic ?_
 exact wp_region_fan (fun w' => ∃ p:Regrown,w' = grow (redrawn w p.d) p.os) n qs is _ hm hB hlen (pickOps_map l qs hin) (fun _ _ _ _ _ h => h) ⟨⟨w.drawn + 1,#[]⟩,by rw [grow_empty]; rfl⟩ h
structure Maker (P:Program) (Q:Exit→Act→World→Prop) (base:Act) (w:World) (ds:List Tmp) (o:Oper) (d:Tmp) (F:Value→World→Prop):Prop where
 dst:o.dst = some d
 guard:o.guard = none
 stays:∀ v W W',F v W→Below W.heap.size W W'→F v W'
 makes:∀ act W K,(∀ x,x ∉ ds→act.tmps[x]? = base.tmps[x]?)→Below w.heap.size w W→(∀ v W',Below W.heap.size W W'→F v W'→K (act.put (some d) v) W')→o.wp P act W K Q
theorem put_agrees {a:Act} {base:Act} {d:Tmp} {ds:List Tmp} {v:Value} (hd:d∈ds) (h:∀ x,x ∉ ds→a.tmps[x]? = base.tmps[x]?):∀ x,x ∉ ds→(a.put (some d) v).tmps[x]? = base.tmps[x]?:=fun x hx => by
 have hne:d≠x:=fun e => hx (e ▸ hd)
 have e:(a.put (some d) v).tmps = a.tmps.setIfInBounds d v:=rfl
 rw [e,Array.getElem?_setIfInBounds_ne hne]
 exact h x hx
theorem put_comm (a:Act) {d e:Tmp} (h:d≠e) (v u:Value):(a.put (some d) v).put (some e) u = (a.put (some e) u).put (some d) v:=by
 show ({ a with tmps:=(a.tmps.setIfInBounds d v).setIfInBounds e u }:Act) = { a with tmps:=(a.tmps.setIfInBounds e u).setIfInBounds d v }
 rw [Array.setIfInBounds_comm _ _ h]
theorem fan3 {base:Act} {w:World} {tail:List Oper} {i j k:Nat} {oi oj ok:Oper} {di dj dk:Tmp} {Fi Fj Fk:Value→World→Prop} (hij:i≠j) (hik:i≠k) (hjk:j≠k) (hd:di≠dj) (hd2:di≠dk) (hd3:dj≠dk)
    (hi:ops[i]? = some oi) (hj:ops[j]? = some oj) (hk:ops[k]? = some ok)
    (mi:Maker P Q base w [di,dj,dk] oi di Fi) (mj:Maker P Q base w [di,dj,dk] oj dj Fj) (mk:Maker P Q base w [di,dj,dk] ok dk Fk)
    (h:∀ vi vj vk W,Below w.heap.size w W→Fi vi W→Fj vj W→Fk vk W→wpList P ops Q tail (((base.put (some di) vi).put (some dj) vj).put (some dk) vk) W) :
    wpFan P ops (fun w' => ∃ p:Regrown,w' = grow (redrawn w p.d) p.os) Q tail 3 [i,j,k] base w:=by
 have two:∀ (x y:Nat) (ox oy:Oper) (dx dy:Tmp) (Fx Fy:Value→World→Prop) (a:Act) (W0:World),x≠y→ops[x]? = some ox→ops[y]? = some oy→Maker P Q base w [di,dj,dk] ox dx Fx→Maker P Q base w [di,dj,dk] oy dy Fy→dx∈[di,dj,dk]→dy∈[di,dj,dk]→dx≠dy →
     (∀ z,z ∉ [di,dj,dk]→a.tmps[z]? = base.tmps[z]?)→Below w.heap.size w W0→(∀ vx vy W,Below W0.heap.size W0 W→Fx vx W→Fy vy W→wpList P ops Q tail ((a.put (some dx) vx).put (some dy) vy) W) →
     wpFan P ops (fun w' => ∃ p:Regrown,w' = grow (redrawn w p.d) p.os) Q tail 2 [x,y] a W0:=by
  intro x y ox oy dx dy Fx Fy a W0 hxy hx hy mx my hdx hdy hdd hag hb0 ht z hz
  rcases List.mem_cons.1 hz with rfl | hz
  ·refine ⟨ox,hx,mx.guard,mx.makes a W0 _ hag hb0 fun vx Wx hbx hfx => ?_⟩
   have hb1:=hb0.trans (hbx.mono hb0.size)
   refine ⟨regrown_of_below hb1,?_⟩
   rw [show ([z,y]:List Nat).erase z = [y] by simp]
   intro u hu
   rw [List.mem_singleton] at hu
   subst hu
   refine ⟨oy,hy,my.guard,my.makes _ Wx _ (put_agrees hdx hag) hb1 fun vy Wy hby hfy => ?_⟩
   have hb2:=hbx.trans (hby.mono hbx.size)
   exact ⟨regrown_of_below (hb0.trans (hb2.mono hb0.size)),ht vx vy Wy hb2 (mx.stays _ _ _ hfx hby) hfy⟩
  ·rw [List.mem_singleton] at hz
   subst hz
   refine ⟨oy,hy,my.guard,my.makes a W0 _ hag hb0 fun vy Wy hby hfy => ?_⟩
   have hb1:=hb0.trans (hby.mono hb0.size)
   refine ⟨regrown_of_below hb1,?_⟩
   rw [show ([x,z]:List Nat).erase z = [x] by simp [hxy]]
   intro u hu
   rw [List.mem_singleton] at hu
   subst hu
   refine ⟨ox,hx,mx.guard,mx.makes _ Wy _ (put_agrees hdy hag) hb1 fun vx Wx hbx hfx => ?_⟩
   have hb2:=hby.trans (hbx.mono hby.size)
   refine ⟨regrown_of_below (hb0.trans (hb2.mono hb0.size)),?_⟩
   rw [put_comm _ (Ne.symm hdd)]
   exact ht vx vy Wx hb2 hfx (my.stays _ _ _ hfy hbx)
 intro x hx
 simp only [List.mem_cons,List.not_mem_nil,or_false] at hx
 rcases hx with rfl | rfl | rfl
 ·refine ⟨oi,hi,mi.guard,mi.makes base w _ (fun _ _ => rfl) (Below.refl _ _) fun vi Wi hbi hfi => ⟨regrown_of_below hbi,?_⟩⟩
  rw [show ([x,j,k]:List Nat).erase x = [j,k] by simp]
  refine two j k oj ok dj dk Fj Fk _ Wi hjk hj hk mj mk (by simp) (by simp) hd3 (put_agrees (by simp) fun _ _ => rfl) hbi fun vj vk W hb hfj hfk => ?_
  exact h vi vj vk W (hbi.trans (hb.mono hbi.size)) (mi.stays _ _ _ hfi hb) hfj hfk
 ·refine ⟨oj,hj,mj.guard,mj.makes base w _ (fun _ _ => rfl) (Below.refl _ _) fun vj Wj hbj hfj => ⟨regrown_of_below hbj,?_⟩⟩
  rw [show ([i,x,k]:List Nat).erase x = [i,k] by simp [hij]]
  refine two i k oi ok di dk Fi Fk _ Wj hik hi hk mi mk (by simp) (by simp) hd2 (put_agrees (by simp) fun _ _ => rfl) hbj fun vi vk W hb hfi hfk => ?_
  rw [put_comm base (Ne.symm hd)]
  exact h vi vj vk W (hbj.trans (hb.mono hbj.size)) hfi (mj.stays _ _ _ hfj hb) hfk
 ·refine ⟨ok,hk,mk.guard,mk.makes base w _ (fun _ _ => rfl) (Below.refl _ _) fun vk Wk hbk hfk => ⟨regrown_of_below hbk,?_⟩⟩
  rw [show ([i,j,x]:List Nat).erase x = [i,j] by simp [hik,hjk]]
  refine two i j oi oj di dj Fi Fj _ Wk hij hi hj mi mj (by simp) (by simp) hd (put_agrees (by simp) fun _ _ => rfl) hbk fun vi vj W hb hfi hfj => ?_
  rw [put_comm base (Ne.symm hd2),put_comm (base.put (some di) vi) (Ne.symm hd3)]
  exact h vi vj vk W (hbk.trans (hb.mono hbk.size)) hfi hfj (mk.stays _ _ _ hfk hb)
end
end Go.Proofs.YtcondkihpmmnnaaGreatDoor
namespace Go.Proofs.YtcondkihpmmnnaaGreatDoor
open Go.Maps (Keyed)
theorem strK:Keyed Tryz.prog 9:=Maps.string_keyed Tryz.underlying9
def Num (w:World) (b:Nat) (ks:List (List UInt8)):Prop :=
 ∃ n,∃ D:DataW Unit,w.ownsMap Tryz.prog 9 (plainElem Tryz.prog 3) b n D∧n≤ks.length∧Maps.Tidy D∧Maps.IsMap D∧Maps.size D = ks.length∧ks.Nodup ∧
  ∀ k:List UInt8,(Maps.has D (.string k) = true↔k∈ks)∧∀ i:Nat,ks[i]? = some k→D.atKey (.string k) (.lit (.int .i64 0)) = .lit (.int .i64 (i:Int))
section
variable {w w':World} {b:Nat} {ks:List (List UInt8)}
theorem Num.made (w:World):Num (w.alloc (.map #[] 0)) w.heap.size [] :=
 ⟨0,_,World.ownsMap_made w Tryz.prog 9 _,Nat.le_refl _,(World.ownsMap_made (H:=Unit) w Tryz.prog 9 (plainElem Tryz.prog 3)).tidy strK,Maps.isMap_empty,rfl,List.nodup_nil,fun k => ⟨by simp [Maps.has],fun i h => by simp at h⟩⟩
theorem Num.kept {row:Option Nat} (h:Num w b ks) (hg:w.grownBy w' row) (hne:some b≠row):Num w' b ks:=by
 obtain ⟨n,D,h1,h2⟩:=h
 exact ⟨n,D,h1.kept hg hne,h2⟩
theorem Num.below {B:Nat} (h:Num w b ks) (hb:RowKit.Below B w w') (hB:w.heap.size≤B):Num w' b ks :=
 h.kept (row:=none) ⟨hb.os,hb.tape,hb.output,hb.size,fun k hk _ => hb.block k (by omega)⟩ (by simp)
theorem Num.lt (h:Num w b ks):b < w.heap.size:=by
 obtain ⟨n,D,h1,_⟩:=h
 exact h1.lt
theorem num_put {n:Nat} {D:DataW Unit} (h2:n≤ks.length) (ht:Maps.Tidy D) (h3:Maps.IsMap D) (hz:Maps.size D = ks.length) (hd:ks.Nodup)
    (h4:∀ k:List UInt8,(Maps.has D (.string k) = true↔k∈ks)∧∀ i:Nat,ks[i]? = some k→D.atKey (.string k) (.lit (.int .i64 0)) = .lit (.int .i64 (i:Int)))
    (x:List UInt8) (hx:x ∉ ks) (hxl:Maps.has D (.string x) = false) (hk:WideAt.IsKeyLit (.string x))
    (ho:w'.ownsMap Tryz.prog 9 (plainElem Tryz.prog 3) b (n + 1) (D.put (.string x) (.lit (.int .i64 (ks.length:Int))))):Num w' b (ks ++ [x]):=by
 refine ⟨n + 1,_,ho,by rw [List.length_append,List.length_singleton]; omega,ho.tidy strK,ho.isMap,?_,?_,fun k => ?_⟩
 ·rw [Maps.size_put ht,hxl,hz,List.length_append]; rfl
 ·rw [List.nodup_append]
  exact ⟨hd,by simp,fun a ha b hb => by rw [List.mem_singleton] at hb; subst hb; exact fun e => hx (e ▸ ha)⟩
 ·by_cases e:k = x
  ·subst e
   refine ⟨by rw [Maps.has_put_same h3 hk]; simp,fun i hi => ?_⟩
   rw [Maps.atKey_put_same h3 hk]
   have:i = ks.length:=by
    rcases Nat.lt_trichotomy i ks.length with h | h | h
    ·rw [List.getElem?_append_left h] at hi
     exact absurd (List.mem_of_getElem? hi) hx
    ·exact h
    ·rw [List.getElem?_eq_none (by simp; omega)] at hi; cases hi
   rw [this]
  ·have hne:(Lit.string k)≠.string x:=fun h => e (by injection h)
   refine ⟨by rw [Maps.has_put_other hne,(h4 k).1,List.mem_append,List.mem_singleton]; simp [e],fun i hi => ?_⟩
   rw [Maps.atKey_put_other hne]
   refine (h4 k).2 i ?_
   rcases Nat.lt_or_ge i ks.length with h | h
   ·rw [List.getElem?_append_left h] at hi; exact hi
   ·rw [List.getElem?_append_right h] at hi
    rcases Nat.eq_zero_or_pos (i - ks.length) with h0 | h0
    ·rw [h0] at hi; simp at hi; exact absurd hi.symm e
    ·rw [List.getElem?_eq_none (by simp; omega)] at hi; cases hi
end
end Go.Proofs.YtcondkihpmmnnaaGreatDoor
namespace Go.Proofs.YtcondkihpmmnnaaGreatDoor
def lcp2 (a b:ByteArray):ByteArray:=a.extract 0 (lcpN a.data.toList b.data.toList)
theorem lcpN_take:∀ a b:List UInt8,a.take (lcpN a b) = b.take (lcpN a b)
 | [],b => by simp [lcpN]
 | _ :: _,[] => by simp [lcpN]
 | x :: a,y :: b => by
  unfold lcpN
  split
  ·rename_i h
   subst h
   simp [lcpN_take a b]
  ·simp
theorem lcpN_great:∀ (m a b:List UInt8),m <+: a→m <+: b→m.length≤lcpN a b
 | [],_,_,_,_ => Nat.zero_le _
 | x :: m,a,b,⟨u,hu⟩,⟨v,hv⟩ => by
  subst hu hv
  show _≤lcpN (x :: (m ++ u)) (x :: (m ++ v))
  unfold lcpN
  rw [if_pos rfl]
  have:=lcpN_great m (m ++ u) (m ++ v) ⟨u,rfl⟩ ⟨v,rfl⟩
  simp; omega
theorem bl_ext0 (a:ByteArray) (k:Nat):bl (a.extract 0 k) = (bl a).take k:=by
 unfold bl; simp [ByteArray.extract,ByteArray.copySlice]
theorem lcp2_left (a b:ByteArray):bl (lcp2 a b) <+: bl a:=by
 unfold lcp2; rw [bl_ext0]; exact List.take_prefix _ _
theorem lcp2_right (a b:ByteArray):bl (lcp2 a b) <+: bl b:=by
 unfold lcp2; rw [bl_ext0]
 show (bl a).take (lcpN (bl a) (bl b)) <+: bl b
 rw [lcpN_take]; exact List.take_prefix _ _
theorem lcp2_great {m:List UInt8} {a b:ByteArray} (h1:m <+: bl a) (h2:m <+: bl b):m <+: bl (lcp2 a b):=by
 unfold lcp2; rw [bl_ext0]
 have:=lcpN_great m _ _ h1 h2
 exact List.prefix_take_iff.2 ⟨h1,this⟩
theorem lcpB_prefix (s:ByteArray):∀ l:List ByteArray,(∀ m,m <+: bl (lcpB s l)↔m <+: bl s∧∀ x∈l,m <+: bl x):=by
 intro l
 induction l generalizing s with
 | nil => intro m; simp [lcpB]
 | cons y l ih =>
  intro m
  have e:lcpB s (y :: l) = lcpB (lcp2 s y) l:=rfl
  rw [e,ih]
  constructor
  ·rintro ⟨h1,h2⟩
   refine ⟨h1.trans (lcp2_left _ _),fun x hx => ?_⟩
   rcases List.mem_cons.1 hx with rfl | hx
   ·exact h1.trans (lcp2_right _ _)
   ·exact h2 x hx
  ·rintro ⟨h1,h2⟩
   exact ⟨lcp2_great h1 (h2 y List.mem_cons_self),fun x hx => h2 x (List.mem_cons_of_mem _ hx)⟩
theorem lcpA_prefix {l:List ByteArray} (h:l≠[]) (m:List UInt8):m <+: bl (lcpA l)↔∀ x∈l,m <+: bl x:=by
 cases l with
 | nil => exact absurd rfl h
 | cons s l =>
  show m <+: bl (lcpB s l)↔_
  rw [lcpB_prefix]
  simp
theorem lcpA_snoc (l:List ByteArray) (x:ByteArray):lcpA (l ++ [x]) = if l = [] then x else lcp2 (lcpA l) x:=by
 cases l with
 | nil => simp [lcpA,lcpB]
 | cons s l =>
  simp only [List.cons_append,lcpA,lcpB_snoc]
  rfl
structure Frt where
 l:Nat→ByteArray
 some:Nat→Bool
def candB (q:SeqM) (k:Frt) (s b:Nat):List ByteArray:=if q.nx s b < 0∨k.some (q.nx s b).toNat = false then [] else [q.os s b ++ k.l (q.nx s b).toNat]
def candE (q:SeqM) (s:Nat):List ByteArray:=if q.en s = true then [q.tl s] else []
def candN (q:SeqM) (k:Frt) (s n:Nat):List ByteArray:=candE q s ++ (List.range n).flatMap (candB q k s)
def cand (q:SeqM) (k:Frt) (s:Nat):List ByteArray:=candN q k s 256
theorem candN_next (q:SeqM) (k:Frt) (s n:Nat):candN q k s (n + 1) = candN q k s n ++ candB q k s n:=by
 unfold candN; rw [List.range_succ,List.flatMap_append,List.append_assoc]; simp
theorem cand_mem {q:SeqM} {k:Frt} {s:Nat} {x:ByteArray}:x∈cand q k s↔(q.en s = true∧x = q.tl s)∨∃ b,b < 256∧0≤q.nx s b∧k.some (q.nx s b).toNat = true∧x = q.os s b ++ k.l (q.nx s b).toNat:=by
 unfold cand candN
 rw [List.mem_append,List.mem_flatMap]
 apply or_congr
 ·unfold candE; split <;> simp_all
 ·constructor
  ·rintro ⟨b,hb,hx⟩
   unfold candB at hx
   split at hx
   ·cases hx
   ·rename_i h
    rw [List.mem_singleton] at hx
    rw [not_or] at h
    exact ⟨b,List.mem_range.1 hb,by omega,by simpa using h.2,hx⟩
  ·rintro ⟨b,hb,h1,h2,rfl⟩
   refine ⟨b,List.mem_range.2 hb,?_⟩
   unfold candB
   rw [if_neg (by rw [not_or]; exact ⟨by omega,by simp [h2]⟩)]
   exact List.mem_singleton.2 rfl
def Outs (q:SeqM) (s:Nat) (o:List UInt8):Prop:=∃ w,q.runL s w = Option.some o
def Beg (q:SeqM) (s:Nat) (m:List UInt8):Prop:=∀ o,Outs q s o→m <+: o
theorem outs_end {q:SeqM} {s:Nat} (h:q.en s = true):Outs q s (bl (q.tl s)):=⟨[],by unfold SeqM.runL; rw [if_pos h]⟩
theorem outs_step {q:SeqM} {s b:Nat} (hb:b < 256) (h:0≤q.nx s b) {o:List UInt8} (ho:Outs q (q.nx s b).toNat o):Outs q s (bl (q.os s b) ++ o):=by
 obtain ⟨w,hw⟩:=ho
 refine ⟨UInt8.ofNat b :: w,?_⟩
 have e:(UInt8.ofNat b).toNat = b:=by simp; omega
 unfold SeqM.runL
 rw [e,if_neg (by omega),hw]
 rfl
structure FrOk (q:SeqM) (n:Nat) (k:Frt):Prop where
 live:∀ s,k.some s = true→s < n∧∃ o,Outs q s o
 up:∀ s,k.some s = true→∀ m,Beg q s m→m <+: bl (k.l s)
 down:∀ s,k.some s = true→cand q k s≠[]∧bl (lcpA (cand q k s)) <+: bl (k.l s)
 none:∀ s,k.some s = false→k.l s = ByteArray.empty
def Frt.put (k:Frt) (s:Nat) (f:ByteArray):Frt:=⟨fun t => if t = s then f else k.l t,fun t => if t = s then true else k.some t⟩
theorem beg_cand {q:SeqM} {n:Nat} {k:Frt} (h:FrOk q n k) {s:Nat} {m:List UInt8} (hm:Beg q s m):∀ x∈cand q k s,m <+: bl x:=by
 intro x hx
 rcases cand_mem.1 hx with ⟨he,rfl⟩ | ⟨b,hb,h0,hs,rfl⟩
 ·exact hm _ (outs_end he)
 ·obtain ⟨_,o,ho⟩:=h.live _ hs
  rw [bl_app]
  rcases Nat.le_total m.length (bl (q.os s b)).length with hl | hl
  ·exact (List.prefix_of_prefix_length_le (hm _ (outs_step hb h0 ho)) (List.prefix_append _ _) hl).trans (List.prefix_append _ _)
  ·have hp:bl (q.os s b) <+: m:=List.prefix_of_prefix_length_le (List.prefix_append _ o) (hm _ (outs_step hb h0 ho)) hl
   obtain ⟨m',rfl⟩:=hp
   rw [List.prefix_append_right_inj]
   exact h.up _ hs m' fun o' ho' => (List.prefix_append_right_inj _).1 (hm _ (outs_step hb h0 ho'))
theorem lcpA_mono {l m:List ByteArray} (hl:l≠[]) (h:∀ x∈l,∃ y∈m,bl y <+: bl x) (hm:m≠[]):bl (lcpA m) <+: bl (lcpA l):=by
 rw [lcpA_prefix hl]
 intro x hx
 obtain ⟨y,hy,hp⟩:=h x hx
 exact ((lcpA_prefix hm _).1 (List.prefix_refl _) y hy).trans hp
theorem cand_put {q:SeqM} {k:Frt} {s:Nat} {f:ByteArray} (hf:k.some s = true→bl f <+: bl (k.l s)) (t:Nat):∀ x∈cand q k t,∃ y∈cand q (k.put s f) t,bl y <+: bl x:=by
 intro x hx
 rcases cand_mem.1 hx with ⟨he,rfl⟩ | ⟨b,hb,h0,hs,rfl⟩
 ·exact ⟨_,cand_mem.2 (.inl ⟨he,rfl⟩),List.prefix_refl _⟩
 ·refine ⟨_,cand_mem.2 (.inr ⟨b,hb,h0,?_,rfl⟩),?_⟩
  ·unfold Frt.put; simp only; split <;> simp [hs]
  ·rw [bl_app,bl_app,List.prefix_append_right_inj]
   unfold Frt.put
   simp only
   split
   ·rename_i e; rw [e] at hs; rw [e]; exact hf hs
   ·exact List.prefix_refl _
theorem FrOk.put {q:SeqM} {n:Nat} {k:Frt} (h:FrOk q n k) {s:Nat} (hs:s < n) (hc:cand q k s≠[]):FrOk q n (k.put s (lcpA (cand q k s))):=by
 have hf:k.some s = true→bl (lcpA (cand q k s)) <+: bl (k.l s):=fun e => (h.down s e).2
 have hne:∀ t,cand q k t≠[]→cand q (k.put s (lcpA (cand q k s))) t≠[]:=fun t ht e => by
  obtain ⟨x,hx⟩:=List.exists_mem_of_ne_nil _ ht
  obtain ⟨y,hy,_⟩:=cand_put hf t x hx
  rw [e] at hy; cases hy
 have hlive:∃ o,Outs q s o:=by
  obtain ⟨x,hx⟩:=List.exists_mem_of_ne_nil _ hc
  rcases cand_mem.1 hx with ⟨he,_⟩ | ⟨b,hb,h0,hs',_⟩
  ·exact ⟨_,outs_end he⟩
  ·obtain ⟨_,o,ho⟩:=h.live _ hs'
   exact ⟨_,outs_step hb h0 ho⟩
 refine ⟨fun t ht => ?_,fun t ht m hm => ?_,fun t ht => ?_,fun t ht => ?_⟩
 ·unfold Frt.put at ht
  simp only at ht
  split at ht
  ·rename_i e; subst e; exact ⟨hs,hlive⟩
  ·exact h.live t ht
 ·unfold Frt.put at ht ⊢
  simp only at ht ⊢
  split at ht
  ·rename_i e
   subst e
   rw [if_pos rfl,lcpA_prefix hc]
   exact beg_cand h hm
  ·rename_i e
   rw [if_neg e]
   exact h.up t ht m hm
 ·by_cases e:t = s
  ·subst e
   refine ⟨hne t hc,?_⟩
   have:(k.put t (lcpA (cand q k t))).l t = lcpA (cand q k t):=by unfold Frt.put; simp
   rw [this]
   exact lcpA_mono hc (cand_put hf t) (hne t hc)
  ·have ht':k.some t = true:=by unfold Frt.put at ht; simpa [e] using ht
   have:(k.put s (lcpA (cand q k s))).l t = k.l t:=by unfold Frt.put; simp [e]
   rw [this]
   obtain ⟨h1,h2⟩:=h.down t ht'
   exact ⟨hne t h1,(lcpA_mono h1 (cand_put hf t) (hne t h1)).trans h2⟩
 ·unfold Frt.put at ht ⊢
  simp only at ht ⊢
  split at ht
  ·cases ht
  ·rename_i e
   rw [if_neg e]
   exact h.none t ht
theorem FrOk.start (q:SeqM) (n:Nat):FrOk q n ⟨fun _ => ByteArray.empty,fun _ => false⟩ :=
 ⟨fun _ h => (by cases h),fun _ h => (by cases h),fun _ h => (by cases h),fun _ _ => rfl⟩
theorem FrOk.full {q:SeqM} {n:Nat} {k:Frt} (hq:∀ s b,s < n→b < 256→q.nx s b < (n:Int)) (_h:FrOk q n k) (hd:∀ s,s < n→(cand q k s≠[]→k.some s = true)∧(k.some s = true→bl (k.l s) = bl (lcpA (cand q k s)))) :
    ∀ (w:List UInt8) (s:Nat) (o:List UInt8),s < n→q.runL s w = Option.some o→k.some s = true∧bl (k.l s) <+: o:=by
 intro w
 induction w with
 | nil =>
  intro s o hs hw
  unfold SeqM.runL at hw
  split at hw
  ·rename_i he
   injection hw with hw
   subst hw
   have hm:q.tl s∈cand q k s:=cand_mem.2 (.inl ⟨he,rfl⟩)
   have hk:=(hd s hs).1 (List.ne_nil_of_mem hm)
   refine ⟨hk,?_⟩
   rw [(hd s hs).2 hk]
   exact (lcpA_prefix (List.ne_nil_of_mem hm) _).1 (List.prefix_refl _) _ hm
  ·cases hw
 | cons c w ih =>
  intro s o hs hw
  unfold SeqM.runL at hw
  split at hw
  ·cases hw
  ·rename_i h0
   rw [Option.map_eq_some_iff] at hw
   obtain ⟨o',h1,h2⟩:=hw
   have hz:=hq s c.toNat hs c.toNat_lt
   obtain ⟨i1,i2⟩:=ih _ o' (by omega) h1
   have hm:q.os s c.toNat ++ k.l (q.nx s c.toNat).toNat∈cand q k s:=cand_mem.2 (.inr ⟨_,c.toNat_lt,by omega,i1,rfl⟩)
   have hk:=(hd s hs).1 (List.ne_nil_of_mem hm)
   refine ⟨hk,?_⟩
   rw [(hd s hs).2 hk]
   refine ((lcpA_prefix (List.ne_nil_of_mem hm) _).1 (List.prefix_refl _) _ hm).trans ?_
   rw [bl_app,← h2]
   exact (List.prefix_append_right_inj _).2 i2
structure Fronts (q:SeqM) (k:Frt):Prop where
 live:∀ s,s < q.next.length→(k.some s = true↔∃ o,Outs q s o)
 beg:∀ s,s < q.next.length→k.some s = true→Beg q s (bl (k.l s))
 most:∀ s,s < q.next.length→k.some s = true→∀ m,Beg q s m→m <+: bl (k.l s)
theorem FrOk.fronts {q:SeqM} {k:Frt} (hq:∀ s b,s < q.next.length→b < 256→q.nx s b < (q.next.length:Int)) (h:FrOk q q.next.length k) (hd:∀ s,s < q.next.length→(cand q k s≠[]→k.some s = true)∧(k.some s = true→bl (k.l s) = bl (lcpA (cand q k s)))):Fronts q k :=
 ⟨fun s hs => ⟨fun e => (h.live s e).2,fun ⟨o,w,ho⟩ => (h.full hq hd w s o hs ho).1⟩,
  fun s hs _ o ⟨w,ho⟩ => (h.full hq hd w s o hs ho).2,
  fun s _ e => h.up s e⟩
end Go.Proofs.YtcondkihpmmnnaaGreatDoor
namespace Go.Proofs.YtcondkihpmmnnaaGreatDoor
structure Pushes (q:SeqM) (k:Frt) (r:SeqM) (us:List Nat):Prop where
 n:r.next.length = us.length
 first:us[0]? = some 0
 front:r.front = q.front ++ k.l 0
 state:∀ (i s:Nat),us[i]? = some s→s < q.next.length∧k.some s = true∧r.en i = q.en s∧(q.en s = true→bl (q.tl s) = bl (k.l s) ++ bl (r.tl i)) ∧
  ∀ b,b < 256→((q.nx s b < 0∨k.some (q.nx s b).toNat = false)∧r.nx i b < 0) ∨
   (0≤q.nx s b∧∃ j:Nat,us[j]? = some (q.nx s b).toNat∧r.nx i b = (j:Int)∧bl (q.os s b) ++ bl (k.l (q.nx s b).toNat) = bl (k.l s) ++ bl (r.os i b))
theorem Pushes.runL {q r:SeqM} {k:Frt} {us:List Nat} (h:Pushes q k r us) (hf:Fronts q k) (hq:∀ s b,s < q.next.length→b < 256→q.nx s b < (q.next.length:Int)) :
    ∀ (w:List UInt8) (i s:Nat),us[i]? = some s→q.runL s w = (r.runL i w).map (bl (k.l s) ++ ·):=by
 intro w
 induction w with
 | nil =>
  intro i s hi
  obtain ⟨_,_,he,ht,_⟩:=h.state i s hi
  unfold SeqM.runL
  rw [he]
  by_cases e:q.en s = true
  ·rw [if_pos e,if_pos e]
   show some (bl (q.tl s)) = some (bl (k.l s) ++ bl (r.tl i))
   rw [ht e]
  ·rw [if_neg e,if_neg e]; rfl
 | cons c w ih =>
  intro i s hi
  obtain ⟨hs,_,_,_,hb⟩:=h.state i s hi
  have hz:=hq s c.toNat hs c.toNat_lt
  unfold SeqM.runL
  rcases hb c.toNat c.toNat_lt with ⟨h1,h2⟩ | ⟨h1,j,h2,h3,h4⟩
  ·rw [if_pos h2]
   by_cases h0:q.nx s c.toNat < 0
   ·rw [if_pos h0]; rfl
   ·rw [if_neg h0]
    have hk:=h1.resolve_left h0
    have:q.runL (q.nx s c.toNat).toNat w = none:=by
     rcases hr:q.runL (q.nx s c.toNat).toNat w with _ | o
     ·rfl
     ·have:=(hf.live (q.nx s c.toNat).toNat (by omega)).2 ⟨o,w,hr⟩
      rw [hk] at this; cases this
    rw [this]; rfl
  ·rw [if_neg (by omega),if_neg (by omega),h3,Int.toNat_natCast,ih j _ h2,Option.map_map,Option.map_map]
   congr 1
   funext o
   show bl (q.os s c.toNat) ++ (bl (k.l (q.nx s c.toNat).toNat) ++ o) = bl (k.l s) ++ (bl (r.os i c.toNat) ++ o)
   rw [← List.append_assoc,h4,List.append_assoc]
structure Tight (r:SeqM):Prop where
 live:∀ i,i < r.next.length→∃ o,Outs r i o
 none:∀ i,i < r.next.length→∀ m,Beg r i m→m = []
 nx:∀ i b,i < r.next.length→b < 256→r.nx i b < (r.next.length:Int)
theorem Pushes.tight {q r:SeqM} {k:Frt} {us:List Nat} (h:Pushes q k r us) (hf:Fronts q k) (hq:∀ s b,s < q.next.length→b < 256→q.nx s b < (q.next.length:Int)):Tight r:=by
 have hg:∀ i,i < r.next.length→∃ s,us[i]? = some s:=fun i hi => ⟨us[i]'(by rw [← h.n]; exact hi),List.getElem?_eq_getElem _⟩
 refine ⟨fun i hi => ?_,fun i hi m hm => ?_,fun i b hi hb => ?_⟩
 ·obtain ⟨s,hs⟩:=hg i hi
  obtain ⟨hsn,hk,_⟩:=h.state i s hs
  obtain ⟨o,w,ho⟩:=(hf.live s hsn).1 hk
  rw [h.runL hf hq w i s hs,Option.map_eq_some_iff] at ho
  obtain ⟨o',h1,_⟩:=ho
  exact ⟨o',w,h1⟩
 ·obtain ⟨s,hs⟩:=hg i hi
  obtain ⟨hsn,hk,_⟩:=h.state i s hs
  have:bl (k.l s) ++ m <+: bl (k.l s):=by
   refine hf.most s hsn hk _ fun o ⟨w,ho⟩ => ?_
   rw [h.runL hf hq w i s hs,Option.map_eq_some_iff] at ho
   obtain ⟨o',h1,rfl⟩:=ho
   exact (List.prefix_append_right_inj _).2 (hm o' ⟨w,h1⟩)
  have:=this.length_le
  rw [List.length_append] at this
  exact List.eq_nil_of_length_eq_zero (by omega)
 ·obtain ⟨s,hs⟩:=hg i hi
  obtain ⟨_,_,_,_,hbb⟩:=h.state i s hs
  rcases hbb b hb with ⟨_,h2⟩ | ⟨_,j,h2,h3,_⟩
  ·omega
  ·rw [h3,h.n]
   have:j < us.length:=by
    rcases Nat.lt_or_ge j us.length with h | h
    ·exact h
    ·rw [List.getElem?_eq_none h] at h2; cases h2
   omega
theorem Pushes.run {q r:SeqM} {k:Frt} {us:List Nat} (h:Pushes q k r us) (hf:Fronts q k) (hq:∀ s b,s < q.next.length→b < 256→q.nx s b < (q.next.length:Int)) (w:List UInt8):r.run w = q.run w:=by
 have h0:=h.state 0 0 h.first
 have hu:0 < us.length:=by
  rcases Nat.eq_zero_or_pos us.length with e | e
  ·have:=h.first; rw [List.getElem?_eq_none (by omega)] at this; cases this
  ·exact e
 unfold SeqM.run
 rw [if_neg (by rw [h.n]; omega),if_neg (by omega),h.runL hf hq w 0 0 h.first,Option.map_map,h.front]
 congr 1
 funext o
 show bl (q.front ++ k.l 0) ++ o = bl q.front ++ (bl (k.l 0) ++ o)
 rw [bl_app,List.append_assoc]
def SameOn (r:SeqM) (i j:Nat):Prop:=∀ w,r.runL i w = r.runL j w
theorem alike_step {r t:SeqM} (hr:Tight r) (ht:Tight t) {i j:Nat} (hi:i < r.next.length) (hj:j < t.next.length) (h:∀ w,r.runL i w = t.runL j w) :
    r.en i = t.en j∧(r.en i = true→r.tl i = t.tl j)∧∀ b,b < 256→(r.nx i b < 0↔t.nx j b < 0)∧(0≤r.nx i b→r.os i b = t.os j b∧∀ w,r.runL (r.nx i b).toNat w = t.runL (t.nx j b).toNat w):=by
 have h0:=h []
 unfold SeqM.runL at h0
 have he:r.en i = t.en j:=by
  rcases e1:r.en i with _ | _ <;> rcases e2:t.en j with _ | _ <;> rw [e1,e2] at h0 <;> first | rfl | cases h0
 refine ⟨he,fun e => ?_,fun b hb => ?_⟩
 ·rw [if_pos e,if_pos (he ▸ e)] at h0
  injection h0 with h0
  exact bl_inj h0
 ·have e8:(UInt8.ofNat b).toNat = b:=by simp; omega
  have hw:∀ w,(if r.nx i b < 0 then none else (r.runL (r.nx i b).toNat w).map (bl (r.os i b) ++ ·)) = (if t.nx j b < 0 then none else (t.runL (t.nx j b).toNat w).map (bl (t.os j b) ++ ·)):=fun w => by
   have:=h (UInt8.ofNat b :: w)
   unfold SeqM.runL at this
   rw [e8] at this
   exact this
  have hrz:=hr.nx i b hi hb
  have htz:=ht.nx j b hj hb
  have hneg:r.nx i b < 0↔t.nx j b < 0:=by
   constructor
   ·intro e
    apply Decidable.byContradiction
    intro e'
    obtain ⟨o,w,ho⟩:=ht.live (t.nx j b).toNat (by omega)
    have:=hw w
    rw [if_pos e,if_neg e',ho] at this
    cases this
   ·intro e
    apply Decidable.byContradiction
    intro e'
    obtain ⟨o,w,ho⟩:=hr.live (r.nx i b).toNat (by omega)
    have:=hw w
    rw [if_neg e',if_pos e,ho] at this
    cases this
  refine ⟨hneg,fun h0 => ?_⟩
  have hn1:¬ r.nx i b < 0:=by omega
  have hn2:¬ t.nx j b < 0:=fun e => hn1 (hneg.2 e)
  have hw':∀ w,(r.runL (r.nx i b).toNat w).map (bl (r.os i b) ++ ·) = (t.runL (t.nx j b).toNat w).map (bl (t.os j b) ++ ·):=fun w => by
   have:=hw w
   rwa [if_neg hn1,if_neg hn2] at this
  obtain ⟨o1,w1,ho1⟩:=hr.live (r.nx i b).toNat (by omega)
  have hout:r.os i b = t.os j b:=by
   have key:∀ (r t:SeqM) (zi zj:Nat) (a c:List UInt8),Tight t→zj < t.next.length→(∀ w,(r.runL zi w).map (a ++ ·) = (t.runL zj w).map (c ++ ·))→(∃ o,Outs r zi o)→c.length≤a.length→a = c:=by
    intro r t zi zj a c ht hzj hw ⟨o,w,ho⟩ hl
    have h1:=hw w
    rw [ho,Option.map_some] at h1
    obtain ⟨o',h2,h3⟩:=Option.map_eq_some_iff.1 h1.symm
    have hp:c <+: a:=List.prefix_of_prefix_length_le (h3 ▸ List.prefix_append c o') (List.prefix_append a o) hl
    obtain ⟨m,rfl⟩:=hp
    have:m = []:=by
     refine ht.none zj hzj m fun o2 ⟨w2,ho2⟩ => ?_
     have h4:=hw w2
     rw [ho2,Option.map_some] at h4
     obtain ⟨o3,h5,h6⟩:=Option.map_eq_some_iff.1 h4
     simp only [List.append_assoc] at h6
     exact ⟨o3,List.append_cancel_left h6⟩
    rw [this,List.append_nil]
   rcases Nat.le_total (bl (t.os j b)).length (bl (r.os i b)).length with hl | hl
   ·exact bl_inj (key r t _ _ _ _ ht (by omega) hw' ⟨o1,w1,ho1⟩ hl)
   ·exact (bl_inj (key t r _ _ _ _ hr (by omega) (fun w => (hw' w).symm) (ht.live _ (by omega)) hl)).symm
  refine ⟨hout,fun w => ?_⟩
  have:=hw' w
  rw [hout] at this
  rcases e1:r.runL (r.nx i b).toNat w with _ | x <;> rcases e2:t.runL (t.nx j b).toNat w with _ | y <;> rw [e1,e2] at this
  ·cases this
  ·cases this
  ·simp only [Option.map_some,Option.some.injEq] at this
   rw [List.append_cancel_left this]
structure Canon (m:SeqM):Prop where
 tight:Tight m
 pos:0 < m.next.length
 lens:m.outs.length = m.next.length∧m.ends.length = m.next.length∧m.tail.length = m.next.length
 row:∀ i,i < m.next.length→(m.next.getD i []).length = 256∧(m.outs.getD i []).length = 256
 no:∀ i b,i < m.next.length→b < 256→m.nx i b < 0→m.nx i b = -1∧m.os i b = ByteArray.empty
 open_:∀ i,i < m.next.length→m.en i = false→m.tl i = ByteArray.empty
 diff:∀ i j,i < m.next.length→j < m.next.length→SameOn m i j→i = j
 order:∀ i,0 < i→i < m.next.length→∃ j b,j < i∧b < 256∧m.nx j b = (i:Int)∧∀ j' b',b' < 256→(j' < j∨j' = j∧b' < b)→m.nx j' b' < (i:Int)
theorem canon_alike {m t:SeqM} (hm:Canon m) (ht:Canon t) (h0:∀ w,m.runL 0 w = t.runL 0 w):∀ i,i < m.next.length→i < t.next.length∧∀ w,m.runL i w = t.runL i w:=by
 intro i
 induction i using Nat.strongRecOn with
 | _ i ih =>
  intro hi
  rcases Nat.eq_zero_or_pos i with rfl | hp
  ·exact ⟨ht.pos,h0⟩
  obtain ⟨j,b,hj,hb,h1,h2⟩:=hm.order i hp hi
  obtain ⟨hjt,hjr⟩:=ih j hj (by omega)
  have hst:=(alike_step hm.tight ht.tight (by omega) hjt hjr).2.2 b hb
  have hpos:0≤t.nx j b:=by
   have:=hst.1
   omega
  have hnr:=(hst.2 (by omega)).2
  rw [h1,Int.toNat_natCast] at hnr
  have htz:=ht.tight.nx j b hjt hb
  obtain ⟨z,hz⟩:∃ z:Nat,t.nx j b = (z:Int):=⟨_,(Int.toNat_of_nonneg hpos).symm⟩
  rw [hz,Int.toNat_natCast] at hnr
  have hzn:z < t.next.length:=by omega
  have hzi:¬ z < i:=fun hzi => by
   obtain ⟨_,h4⟩:=ih z hzi (by omega)
   have:i = z:=hm.diff i z hi (by omega) fun w => by rw [hnr,h4]
   omega
  have hit:i < t.next.length:=by omega
  obtain ⟨j2,b2,hj2,hb2,k1,k2⟩:=ht.order i hp hit
  have hlt:∀ j' b',b' < 256→(j' < j∨j' = j∧b' < b)→t.nx j' b' < (i:Int):=fun j' b' hb' hlt => by
   have hj':j' < i:=by omega
   obtain ⟨g1,g2⟩:=ih j' hj' (by omega)
   have gst:=(alike_step hm.tight ht.tight (by omega) g1 g2).2.2 b' hb'
   have g3:=h2 j' b' hb' hlt
   by_cases g0:m.nx j' b' < 0
   ·have:=gst.1.1 g0; omega
   ·have g4:=(gst.2 (by omega)).2
    have g5:=ht.tight.nx j' b' g1 hb'
    have g6:0≤t.nx j' b':=by have:=gst.1; omega
    obtain ⟨_,g7⟩:=ih (m.nx j' b').toNat (by omega) (by omega)
    obtain ⟨g8,_⟩:=ih (m.nx j' b').toNat (by omega) (by omega)
    have:(m.nx j' b').toNat = (t.nx j' b').toNat:=ht.diff _ _ g8 (by omega) fun w => by rw [← g7,g4]
    omega
  have hnot:¬ (j2 < j∨j2 = j∧b2 < b):=fun e => by have:=hlt j2 b2 hb2 e; omega
  have hnot2:¬ (j < j2∨j = j2∧b < b2):=fun e => by have:=k2 j b hb e; omega
  have e1:j2 = j:=by omega
  have e2:b2 = b:=by omega
  subst e1 e2
  have:z = i:=by omega
  subst this
  exact ⟨hit,hnr⟩
theorem getD_ext {α:Type} {d:α} {l m:List α} (hl:l.length = m.length) (h:∀ i,i < l.length→l.getD i d = m.getD i d):l = m:=by
 apply List.ext_getElem hl
 intro i h1 h2
 have:=h i h1
 rwa [List.getD_eq_getElem?_getD,List.getD_eq_getElem?_getD,List.getElem?_eq_getElem h1,List.getElem?_eq_getElem h2] at this
theorem canon_one {m t:SeqM} (hm:Canon m) (ht:Canon t) (h:∀ w,m.run w = t.run w):m = t:=by
 have hrun:∀ w,(m.runL 0 w).map (bl m.front ++ ·) = (t.runL 0 w).map (bl t.front ++ ·):=fun w => by
  have:=h w
  unfold SeqM.run at this
  have p1:=hm.pos
  have p2:=ht.pos
  rwa [if_neg (by omega),if_neg (by omega)] at this
 have key:∀ (m t:SeqM),Canon m→Canon t→(∀ w,(m.runL 0 w).map (bl m.front ++ ·) = (t.runL 0 w).map (bl t.front ++ ·))→(bl t.front).length≤(bl m.front).length→bl m.front = bl t.front:=by
  intro m t hm ht hrun hl
  obtain ⟨o,w,ho⟩:=hm.tight.live 0 hm.pos
  have h1:=hrun w
  rw [ho,Option.map_some] at h1
  obtain ⟨o',h2,h3⟩:=Option.map_eq_some_iff.1 h1.symm
  have hp:bl t.front <+: bl m.front:=List.prefix_of_prefix_length_le (h3 ▸ List.prefix_append _ o') (List.prefix_append _ o) hl
  obtain ⟨x,hx⟩:=hp
  have:x = []:=by
   refine ht.tight.none 0 ht.pos x fun o2 ⟨w2,ho2⟩ => ?_
   have h4:=hrun w2
   rw [ho2,Option.map_some] at h4
   obtain ⟨o3,h5,h6⟩:=Option.map_eq_some_iff.1 h4
   replace h6:bl m.front ++ o3 = bl t.front ++ o2:=h6
   rw [← hx,List.append_assoc] at h6
   exact ⟨o3,List.append_cancel_left h6⟩
  rw [← hx,this,List.append_nil]
 have hfront:m.front = t.front:=by
  rcases Nat.le_total (bl t.front).length (bl m.front).length with hl | hl
  ·exact bl_inj (key m t hm ht hrun hl)
  ·exact (bl_inj (key t m ht hm (fun w => (hrun w).symm) hl)).symm
 have h0:∀ w,m.runL 0 w = t.runL 0 w:=fun w => by
  have:=hrun w
  rw [hfront] at this
  rcases e1:m.runL 0 w with _ | x <;> rcases e2:t.runL 0 w with _ | y <;> rw [e1,e2] at this
  ·cases this
  ·cases this
  ·simp only [Option.map_some,Option.some.injEq] at this
   rw [List.append_cancel_left this]
 have a1:=canon_alike hm ht h0
 have a2:=canon_alike ht hm (fun w => (h0 w).symm)
 have hn:m.next.length = t.next.length:=by
  rcases Nat.lt_trichotomy m.next.length t.next.length with e | e | e
  ·have:=(a2 m.next.length e).1; omega
  ·exact e
  ·have:=(a1 t.next.length e).1; omega
 have step:∀ i,i < m.next.length→m.en i = t.en i∧m.tl i = t.tl i∧∀ b,b < 256→m.nx i b = t.nx i b∧m.os i b = t.os i b:=fun i hi => by
  obtain ⟨hit,hr⟩:=a1 i hi
  obtain ⟨s1,s2,s3⟩:=alike_step hm.tight ht.tight hi hit hr
  refine ⟨s1,?_,fun b hb => ?_⟩
  ·rcases e:m.en i with _ | _
   ·rw [hm.open_ i hi e,ht.open_ i hit (by rw [← s1]; exact e)]
   ·exact s2 e
  ·obtain ⟨u1,u2⟩:=s3 b hb
   by_cases g:m.nx i b < 0
   ·obtain ⟨v1,v2⟩:=hm.no i b hi hb g
    obtain ⟨v3,v4⟩:=ht.no i b hit hb (u1.1 g)
    exact ⟨by rw [v1,v3],by rw [v2,v4]⟩
   ·obtain ⟨u3,u4⟩:=u2 (by omega)
    refine ⟨?_,u3⟩
    have z1:=hm.tight.nx i b hi hb
    have z2:=ht.tight.nx i b hit hb
    have z3:0≤t.nx i b:=by omega
    obtain ⟨y1,y2⟩:=a1 (m.nx i b).toNat (by omega)
    have:(m.nx i b).toNat = (t.nx i b).toNat:=ht.diff _ _ y1 (by omega) fun w => by rw [← y2,u4]
    omega
 obtain ⟨l1,l2,l3⟩:=hm.lens
 obtain ⟨l4,l5,l6⟩:=ht.lens
 have enx:m.next = t.next:=getD_ext (d:=[]) hn fun i hi => by
  have r1:=(hm.row i hi).1
  have r2:=(ht.row i (hn ▸ hi)).1
  exact getD_ext (d:=0) (by rw [r1,r2]) fun b hb => ((step i hi).2.2 b (by omega)).1
 have eos:m.outs = t.outs:=getD_ext (d:=[]) (by omega) fun i hi => by
  have r1:=(hm.row i (by omega)).2
  have r2:=(ht.row i (by omega)).2
  exact getD_ext (d:=ByteArray.empty) (by rw [r1,r2]) fun b hb => ((step i (by omega)).2.2 b (by omega)).2
 have een:m.ends = t.ends:=getD_ext (d:=false) (by omega) fun i hi => (step i (by omega)).1
 have etl:m.tail = t.tail:=getD_ext (d:=ByteArray.empty) (by omega) fun i hi => (step i (by omega)).2.1
 obtain ⟨f1,n1,o1,e1,t1⟩:=m
 obtain ⟨f2,n2,o2,e2,t2⟩:=t
 simp only at hfront enx eos een etl
 rw [hfront,enx,eos,een,etl]
end Go.Proofs.YtcondkihpmmnnaaGreatDoor
namespace Go.Proofs.YtcondkihpmmnnaaGreatDoor
open Go.RowKit Go.Sort
end Go.Proofs.YtcondkihpmmnnaaGreatDoor
