/- Lemmas, part 8 of 50. No condition. -/
import Derived.Test.YtcondkihpmmnnaaGreatDoorQ06
import Derived.Test.YtcondkihpmmnnaaGreatDoorQ04
import Derived.Test.YtcondkihpmmnnaaGreatDoorQ01
import Derived.Shelf.Strings.BuilderK
import Derived.Test.YtcondkihpmmnnaaGreatDoorQ05
import Derived.Test.YtcondkihpmmnnaaGreatDoorQ03
import Derived.Test.YtcondkihpmmnnaaGreatDoorRows
import Derived.ProofKit
import Derived.SizedLaws
import Derived.ShutString
import Derived.SliceStrings
namespace Go.Proofs.YtcondkihpmmnnaaGreatDoor
open Go.Maps (Keyed)
def Seen {α:Type} (T:TypeId) (enc:α→List Value) (ok:α→Prop) (w:World) (b:Nat) (l:List α):Prop :=
 ∃ n,∃ D:DataW Unit,w.ownsMap Tryz.prog T unitElem b n D∧n≤l.length∧Maps.IsMap D∧∀ q,ok q→∀ kl,keyOf Tryz.prog T (.agg (enc q).toArray) = some kl→(Maps.has D kl = true↔q∈l)
section
variable {α:Type} {T:TypeId} {enc:α→List Value} {ok:α→Prop} {w w':World} {b:Nat} {l:List α}
theorem Seen.made (w:World):Seen T enc ok (w.alloc (.map #[] 0)) w.heap.size [] :=
 ⟨0,_,World.ownsMap_made w Tryz.prog T unitElem,Nat.le_refl _,Maps.isMap_empty,fun q _ kl _ => by simp [Maps.has]⟩
theorem Seen.kept {row:Option Nat} (h:Seen T enc ok w b l) (hg:w.grownBy w' row) (hne:some b≠row):Seen T enc ok w' b l:=by
 obtain ⟨n,D,h1,h2,h3,h4⟩:=h
 exact ⟨n,D,h1.kept hg hne,h2,h3,h4⟩
theorem seen_put {n:Nat} {D:DataW Unit} (K:Keyed Tryz.prog T) (hinj:∀ x y,(enc x).toArray = (enc y).toArray→x = y) (h2:n≤l.length) (h3:Maps.IsMap D) (h4:∀ q,ok q→∀ kl,keyOf Tryz.prog T (.agg (enc q).toArray) = some kl→(Maps.has D kl = true↔q∈l)) (x:α) {kl:Lit} (hk:keyOf Tryz.prog T (.agg (enc x).toArray) = some kl)
    (ho:w'.ownsMap Tryz.prog T unitElem b (n + 1) (D.put kl (.agg []))):Seen T enc ok w' b (l ++ [x]):=by
 refine ⟨n + 1,_,ho,by rw [List.length_append,List.length_singleton]; omega,?_,fun q hq kq hkq => ?_⟩
 ·obtain ⟨es,rfl⟩:=h3
  exact ⟨_,rfl⟩
 ·rw [List.mem_append,List.mem_singleton]
  by_cases e:kq = kl
  ·subst e
   rw [Maps.has_put_same h3 (K.key hk)]
   have:=K.inj hkq hk
   injection this with h
   have:=hinj _ _ h
   exact ⟨fun _ => .inr this,fun _ => rfl⟩
  ·rw [Maps.has_put_other e,h4 q hq kq hkq]
   refine ⟨.inl,fun h => h.resolve_right fun he => ?_⟩
   subst he
   exact e (Option.some.inj (hkq.symm.trans hk))
theorem Seen.below {B:Nat} (h:Seen T enc ok w b l) (hb:RowKit.Below B w w') (hB:w.heap.size≤B):Seen T enc ok w' b l:=by
 have hz:=hb.size
 refine h.kept (row:=none) ⟨hb.os,hb.tape,hb.output,hb.size,fun k hk _ => hb.block k (by omega)⟩ (by simp)
end
theorem encT_inj (x y:Tp) (h:(encT x).toArray = (encT y).toArray):x = y:=by
 obtain ⟨a,b⟩:=x
 obtain ⟨c,d⟩:=y
 simp [encT] at h
 rw [h.1,h.2]
theorem encA_inj (x y:Ar) (h:(encA x).toArray = (encA y).toArray):x = y:=by
 obtain ⟨a,b,⟨c1,c2,c3,c4⟩,d,e⟩:=x
 obtain ⟨a',b',⟨c1',c2',c3',c4'⟩,d',e'⟩:=y
 simp [encA] at h
 obtain ⟨h1,h2,h3,h4,h5,h6,h7,h8⟩:=h
 have h3:=Int.ofNat.inj h3
 have h4:=Int.ofNat.inj h4
 have h5:=Int.ofNat.inj h5
 have h6:=Int.ofNat.inj h6
 rw [h1,h2,h3,h4,h5,h6,h7,h8]
end Go.Proofs.YtcondkihpmmnnaaGreatDoor
namespace Go.Proofs.YtcondkihpmmnnaaGreatDoor
open Go.RowKit Go.Sort
section
variable {P:Program} {ops:Array Oper} {md:Region.Mode} {S:World→Prop} {Q:Exit→Act→World→Prop}
def wpFan (P:Program) (ops:Array Oper) (S:World→Prop) (Q:Exit→Act→World→Prop) (tail:List Oper):Nat→List Nat→Act→World→Prop
 | 0,_,a,w => wpList P ops Q tail a w
 | n + 1,is,a,w => ∀ i∈is,∃ o,ops[i]? = some o∧o.guard = none∧o.wp P a w (fun a' w' => S w'∧wpFan P ops S Q tail n (is.erase i) a' w') Q
def fanB (md:Region.Mode) (ops:Array Oper) (n g:Nat):Nat→List Nat→Array Bool→Bool
 | 0,_,listed => Region.seqB md ops g n listed
 | k + 1,is,listed => decide (Region.ready md ops listed = is) && !is.isEmpty && is.all fun i => decide (i < n) && fanB md ops n g k (is.erase i) (listed.setIfInBounds i true)
theorem headH_fan {n g:Nat} {tail:List Oper} (hL:(ops.toList.drop n) = tail) :
    ∀ (k:Nat) (is:List Nat) (listed:Array Bool) (a:Act) (w:World),fanB md ops n g k is listed = true→wpFan P ops S Q tail k is a w →
    headH P md ops Q S n (fun listed' a' w' => Region.seqB md ops g n listed' = true∧wpList P ops Q tail a' w') k listed a w
 | 0,_,_,_,_,hB,h => ⟨hB,h⟩
 | k + 1,is,listed,a,w,hB,h => by
  simp only [fanB,Bool.and_eq_true,decide_eq_true_eq,List.all_eq_true] at hB
  obtain ⟨⟨hr,hne⟩,hall⟩:=hB
  refine ⟨by rw [hr]; intro e; rw [e] at hne; simp at hne,fun j hj => ?_⟩
  rw [hr] at hj
  obtain ⟨hjn,hjB⟩:=hall j hj
  obtain ⟨o,ho,hg,hw⟩:=h j hj
  refine ⟨hjn,?_⟩
  unfold wpOp
  simp only [ho]
  have hwa:Region.wanted o (yielded ops a.tmps) = true:=by simp [Region.wanted,hg]
  rw [if_pos hwa]
  exact .inl (Oper.wp_mono (fun a' w' h' => ⟨h'.1,headH_fan hL k _ _ a' w' hjB h'.2⟩) hw)
def holdFanB (md:Region.Mode) (ops:Array Oper) (n:Nat) (qs is:List Nat):Bool :=
 Region.noSelect ops && decide (n < ops.size) && Region.sinkB md ops n && Region.chainB md ops n && takesB md ops n qs (Array.replicate ops.size false) &&
  fanB md ops n (ops.size - n) is.length is (listedBy qs (Array.replicate ops.size false))
theorem wp_region_fan {id:Nat} {a:Act} {w:World} {l:List Oper} (S:World→Prop) (n:Nat) (qs is:List Nat) (lq:List Oper) (hm:P.follows .mixedOrders = true) (hB:holdFanB .any l.toArray n qs is = true)
    (hlen:qs.length + is.length = n) (hq:qs.map (fun i => l.toArray[i]?) = lq.map some)
    (hQ:∀ c a d v w,Q (.panic c) (a.put d v) w→Q (.panic c) a w) (hS:S w.drew)
    (h:wpQuiet P l.toArray S (fun a' => wpFan P l.toArray S Q (l.drop n) is.length is a' w.drew) lq a):(Code.region id l.toArray true).wp P Q a w:=by
 simp only [holdFanB,Bool.and_eq_true,decide_eq_true_eq] at hB
 obtain ⟨⟨⟨⟨⟨hsel,hn⟩,hs⟩,hc⟩,htk⟩,hfc⟩:=hB
 have hdl:(l.drop n).length = l.toArray.size - n:=by simp
 have inv0:HeadInv .any l.toArray n (Array.replicate l.toArray.size false) :=
  ⟨by simp,fun j oj _ hl => (by rw [getD_replicate_false] at hl; cases hl),fun t _ ht => getD_in (by simpa using ht) (getD_replicate_false _ _)⟩
 have H:=headH_take (P:=P) (S:=S) (md:=.any) (g:=l.toArray.size - n) (tail:=l.drop n) (m:=is.length) hsel hs hc hn hQ hS (fun a' ha' => headH_fan rfl is.length is _ a' _ hfc ha') qs lq _ a hq inv0 htk rfl h
 refine wp_region_any hm ?_
 have:=any_of_headH (P:=P) (S:=S) (g:=l.toArray.size - n) (fun listed a' w' hL => by
  have:=wpAny_of_seq (md:=.any) (Q':=Q) (l.drop n) n listed a' w' (fun j => by simp [List.getElem?_drop]) (by rw [hdl]; exact hL.1) hL.2
  rwa [hdl] at this) _ _ _ _ H
 have hn':n < l.toArray.size:=hn
 rw [hlen,show n + (l.toArray.size - n) = l.toArray.size by omega] at this
 exact this
theorem wp_region_fan_below {id:Nat} {a:Act} {w:World} {l:List Oper} (n:Nat) (qs is:List Nat) (hm:P.follows .mixedOrders = true) (hB:holdFanB .any l.toArray n qs is = true)
    (hlen:qs.length + is.length = n) (hin:(qs.all fun i => decide (i < l.length)) = true)
    (h:wpQuiet P l.toArray (fun w' => ∃ p:Regrown,w' = grow (redrawn w p.d) p.os) (fun a' => wpFan P l.toArray (fun w' => ∃ p:Regrown,w' = grow (redrawn w p.d) p.os) (NoPanic Q) (l.drop n) is.length is a' w.drew) (pickOps l qs) a) :
    (Code.region id l.toArray true).wp P Q a w:=by
 refine wp_region_noPanic ?_
 exact wp_region_fan (fun w' => ∃ p:Regrown,w' = grow (redrawn w p.d) p.os) n qs is _ hm hB hlen (pickOps_map l qs hin) (fun _ _ _ _ _ h => h) ⟨⟨w.drawn + 1,#[]⟩,by rw [grow_empty]; rfl⟩ h
structure Maker (P:Program) (Q:Exit→Act→World→Prop) (base:Act) (w:World) (ds:List Tmp) (o:Oper) (d:Tmp) (F:Value→World→Prop):Prop where
 dst:o.dst = some d
 guard:o.guard = none
 stays:∀ v W W',F v W→Below W.heap.size W W'→F v W'
 makes:∀ act W K,(∀ x,x ∉ ds→act.tmps[x]? = base.tmps[x]?)→Below w.heap.size w W→(∀ v W',Below W.heap.size W W'→F v W'→K (act.put (some d) v) W')→o.wp P act W K Q
theorem put_agrees {a:Act} {base:Act} {d:Tmp} {ds:List Tmp} {v:Value} (hd:d∈ds) (h:∀ x,x ∉ ds→a.tmps[x]? = base.tmps[x]?):∀ x,x ∉ ds→(a.put (some d) v).tmps[x]? = base.tmps[x]?:=fun x hx => by
 have hne:d≠x:=fun e => hx (e ▸ hd)
 have e:(a.put (some d) v).tmps = a.tmps.setIfInBounds d v:=rfl
 rw [e,Array.getElem?_setIfInBounds_ne hne]
 exact h x hx
theorem put_comm (a:Act) {d e:Tmp} (h:d≠e) (v u:Value):(a.put (some d) v).put (some e) u = (a.put (some e) u).put (some d) v:=by
 show ({ a with tmps:=(a.tmps.setIfInBounds d v).setIfInBounds e u }:Act) = { a with tmps:=(a.tmps.setIfInBounds e u).setIfInBounds d v }
 rw [Array.setIfInBounds_comm _ _ h]
theorem fan2 {base:Act} {w:World} {tail:List Oper} {i j:Nat} {oi oj:Oper} {di dj:Tmp} {Fi Fj:Value→World→Prop} (hij:i≠j) (hd:di≠dj) (hi:ops[i]? = some oi) (hj:ops[j]? = some oj)
    (mi:Maker P Q base w [di,dj] oi di Fi) (mj:Maker P Q base w [di,dj] oj dj Fj)
    (h:∀ vi vj W,Below w.heap.size w W→Fi vi W→Fj vj W→wpList P ops Q tail ((base.put (some di) vi).put (some dj) vj) W) :
    wpFan P ops (fun w' => ∃ p:Regrown,w' = grow (redrawn w p.d) p.os) Q tail 2 [i,j] base w:=by
 intro x hx
 rcases List.mem_cons.1 hx with rfl | hx
 ·refine ⟨oi,hi,mi.guard,mi.makes base w _ (fun _ _ => rfl) (Below.refl _ _) fun vi Wi hbi hfi => ⟨regrown_of_below hbi,?_⟩⟩
  rw [show ([x,j]:List Nat).erase x = [j] by simp]
  intro y hy
  rw [List.mem_singleton] at hy
  subst hy
  refine ⟨oj,hj,mj.guard,mj.makes _ Wi _ (put_agrees (by simp) fun _ _ => rfl) hbi fun vj Wj hbj hfj => ?_⟩
  have hb:=hbi.trans (hbj.mono hbi.size)
  exact ⟨regrown_of_below hb,h vi vj Wj hb (mi.stays _ _ _ hfi hbj) hfj⟩
 ·rw [List.mem_singleton] at hx
  subst hx
  refine ⟨oj,hj,mj.guard,mj.makes base w _ (fun _ _ => rfl) (Below.refl _ _) fun vj Wj hbj hfj => ⟨regrown_of_below hbj,?_⟩⟩
  rw [show ([i,x]:List Nat).erase x = [i] by simp [hij]]
  intro y hy
  rw [List.mem_singleton] at hy
  subst hy
  refine ⟨oi,hi,mi.guard,mi.makes _ Wj _ (put_agrees (by simp) fun _ _ => rfl) hbj fun vi Wi hbi hfi => ?_⟩
  have hb:=hbj.trans (hbi.mono hbj.size)
  refine ⟨regrown_of_below hb,?_⟩
  rw [put_comm _ (Ne.symm hd)]
  exact h vi vj Wi hb hfi (mj.stays _ _ _ hfj hbi)
theorem fan3 {base:Act} {w:World} {tail:List Oper} {i j k:Nat} {oi oj ok:Oper} {di dj dk:Tmp} {Fi Fj Fk:Value→World→Prop} (hij:i≠j) (hik:i≠k) (hjk:j≠k) (hd:di≠dj) (hd2:di≠dk) (hd3:dj≠dk)
    (hi:ops[i]? = some oi) (hj:ops[j]? = some oj) (hk:ops[k]? = some ok)
    (mi:Maker P Q base w [di,dj,dk] oi di Fi) (mj:Maker P Q base w [di,dj,dk] oj dj Fj) (mk:Maker P Q base w [di,dj,dk] ok dk Fk)
    (h:∀ vi vj vk W,Below w.heap.size w W→Fi vi W→Fj vj W→Fk vk W→wpList P ops Q tail (((base.put (some di) vi).put (some dj) vj).put (some dk) vk) W) :
    wpFan P ops (fun w' => ∃ p:Regrown,w' = grow (redrawn w p.d) p.os) Q tail 3 [i,j,k] base w:=by
 have two:∀ (x y:Nat) (ox oy:Oper) (dx dy:Tmp) (Fx Fy:Value→World→Prop) (a:Act) (W0:World),x≠y→ops[x]? = some ox→ops[y]? = some oy→Maker P Q base w [di,dj,dk] ox dx Fx→Maker P Q base w [di,dj,dk] oy dy Fy→dx∈[di,dj,dk]→dy∈[di,dj,dk]→dx≠dy →
     (∀ z,z ∉ [di,dj,dk]→a.tmps[z]? = base.tmps[z]?)→Below w.heap.size w W0→(∀ vx vy W,Below W0.heap.size W0 W→Fx vx W→Fy vy W→wpList P ops Q tail ((a.put (some dx) vx).put (some dy) vy) W) →
     wpFan P ops (fun w' => ∃ p:Regrown,w' = grow (redrawn w p.d) p.os) Q tail 2 [x,y] a W0:=by
  intro x y ox oy dx dy Fx Fy a W0 hxy hx hy mx my hdx hdy hdd hag hb0 ht z hz
  rcases List.mem_cons.1 hz with rfl | hz
  ·refine ⟨ox,hx,mx.guard,mx.makes a W0 _ hag hb0 fun vx Wx hbx hfx => ?_⟩
   have hb1:=hb0.trans (hbx.mono hb0.size)
   refine ⟨regrown_of_below hb1,?_⟩
   rw [show ([z,y]:List Nat).erase z = [y] by simp]
   intro u hu
   rw [List.mem_singleton] at hu
   subst hu
   refine ⟨oy,hy,my.guard,my.makes _ Wx _ (put_agrees hdx hag) hb1 fun vy Wy hby hfy => ?_⟩
   have hb2:=hbx.trans (hby.mono hbx.size)
   exact ⟨regrown_of_below (hb0.trans (hb2.mono hb0.size)),ht vx vy Wy hb2 (mx.stays _ _ _ hfx hby) hfy⟩
  ·rw [List.mem_singleton] at hz
   subst hz
   refine ⟨oy,hy,my.guard,my.makes a W0 _ hag hb0 fun vy Wy hby hfy => ?_⟩
   have hb1:=hb0.trans (hby.mono hb0.size)
   refine ⟨regrown_of_below hb1,?_⟩
   rw [show ([x,z]:List Nat).erase z = [x] by simp [hxy]]
   intro u hu
   rw [List.mem_singleton] at hu
   subst hu
   refine ⟨ox,hx,mx.guard,mx.makes _ Wy _ (put_agrees hdy hag) hb1 fun vx Wx hbx hfx => ?_⟩
   have hb2:=hby.trans (hbx.mono hby.size)
   refine ⟨regrown_of_below (hb0.trans (hb2.mono hb0.size)),?_⟩
   rw [put_comm _ (Ne.symm hdd)]
   exact ht vx vy Wx hb2 hfx (my.stays _ _ _ hfy hbx)
 intro x hx
 simp only [List.mem_cons,List.not_mem_nil,or_false] at hx
 rcases hx with rfl | rfl | rfl
 ·refine ⟨oi,hi,mi.guard,mi.makes base w _ (fun _ _ => rfl) (Below.refl _ _) fun vi Wi hbi hfi => ⟨regrown_of_below hbi,?_⟩⟩
  rw [show ([x,j,k]:List Nat).erase x = [j,k] by simp]
  refine two j k oj ok dj dk Fj Fk _ Wi hjk hj hk mj mk (by simp) (by simp) hd3 (put_agrees (by simp) fun _ _ => rfl) hbi fun vj vk W hb hfj hfk => ?_
  exact h vi vj vk W (hbi.trans (hb.mono hbi.size)) (mi.stays _ _ _ hfi hb) hfj hfk
 ·refine ⟨oj,hj,mj.guard,mj.makes base w _ (fun _ _ => rfl) (Below.refl _ _) fun vj Wj hbj hfj => ⟨regrown_of_below hbj,?_⟩⟩
  rw [show ([i,x,k]:List Nat).erase x = [i,k] by simp [hij]]
  refine two i k oi ok di dk Fi Fk _ Wj hik hi hk mi mk (by simp) (by simp) hd2 (put_agrees (by simp) fun _ _ => rfl) hbj fun vi vk W hb hfi hfk => ?_
  rw [put_comm base (Ne.symm hd)]
  exact h vi vj vk W (hbj.trans (hb.mono hbj.size)) hfi (mj.stays _ _ _ hfj hb) hfk
 ·refine ⟨ok,hk,mk.guard,mk.makes base w _ (fun _ _ => rfl) (Below.refl _ _) fun vk Wk hbk hfk => ⟨regrown_of_below hbk,?_⟩⟩
  rw [show ([i,j,x]:List Nat).erase x = [i,j] by simp [hik,hjk]]
  refine two i j oi oj di dj Fi Fj _ Wk hij hi hj mi mj (by simp) (by simp) hd (put_agrees (by simp) fun _ _ => rfl) hbk fun vi vj W hb hfi hfj => ?_
  rw [put_comm base (Ne.symm hd2),put_comm (base.put (some di) vi) (Ne.symm hd3)]
  exact h vi vj vk W (hbk.trans (hb.mono hbk.size)) hfi hfj (mk.stays _ _ _ hfk hb)
end
end Go.Proofs.YtcondkihpmmnnaaGreatDoor
namespace Go.Proofs.YtcondkihpmmnnaaGreatDoor
open Go.RowKit
theorem bld_size:(Tryz.prog.info? 83).map (·.size) = some 2:=by kernel_rfl
theorem bld_lies:liesAt Tryz.prog Tryz.prog.depth 83 (2 / Tryz.prog.cellsOf 83) 0 83 1 = true:=by kernel_rfl
theorem byte_info:(Tryz.prog.info? 5).map (fun i => (i.zero,i.size,i.bytes)) = some (some (.int .u8 0),1,1):=by kernel_rfl
set_option maxHeartbeats 1000000 in
set_option maxRecDepth 100000 in
theorem copyCheck_fresh (b:Nat) (w:World) (h0:w.cell? ⟨b,0,none⟩ = some (.pointer none)) (hsh:w.shape? b = some (83,2)) (hfz:w.frozen? ⟨b,0,none⟩ = false) :
    Calls Tryz.prog 65 #[.pointer (some ⟨b,0,none⟩)] w fun e w' => e = .returned (.tuple #[])∧w' = w.setCell ⟨b,0,none⟩ (.pointer (some ⟨b,0,none⟩)):=by
 obtain ⟨j,hj,hjs⟩:=Option.map_eq_some_iff.1 bld_size
 go_enter Tryz.func65,Tryz.ntmps65
 go_wp2
 rw [Lib.run_to_unsafe w ⟨b,0,none⟩ Tryz.underlying80 Tryz.underlying183 hj (by rw [hjs]; decide) hsh (Nat.zero_lt_succ 1)]
 simp only [Result.andThen]
 rw [Oper.upon_value]
 go_wp2
 rw [run_callFunc_extern Tryz.func99 (by kernel_rfl) (by kernel_rfl) (by kernel_rfl) (e:=Extern.AbiNoEscape.same) (by kernel_rfl)]
 rw [Lib.run_noEscape]
 simp only [Result.andThen]
 rw [Oper.upon_value]
 go_wp2
 rw [Lib.run_from_unsafe w ⟨b,0,none⟩ Tryz.underlying183 Tryz.underlying80 hj hsh bld_lies]
 simp only [Result.andThen]
 rw [Oper.upon_value]
 go_wp2
 go_end0
 exact ⟨rfl,rfl⟩
set_option maxHeartbeats 1000000 in
set_option maxRecDepth 100000 in
theorem copyCheck_used (b:Nat) (w:World) (h0:w.cell? ⟨b,0,none⟩ = some (.pointer (some ⟨b,0,none⟩))) :
    Calls Tryz.prog 65 #[.pointer (some ⟨b,0,none⟩)] w fun e w' => e = .returned (.tuple #[])∧w' = w:=by
 obtain ⟨j,hj,hjs⟩:=Option.map_eq_some_iff.1 bld_size
 have hne:=Lib.run_neq_ptr_same w (P:=Tryz.prog) ⟨b,0,none⟩ Tryz.underlying80 hj
 go_enter Tryz.func65,Tryz.ntmps65
 go_wp2
 go_end0
 exact ⟨rfl,rfl⟩
abbrev BldF (B b:Nat) (bs:List Value) (w:World):Prop:=Lib.IsBuilderF 83 5 B b bs w
theorem copyCheck_any (B b:Nat) (bs:List Value) (w:World) (h:BldF B b bs w) :
    Calls Tryz.prog 65 #[.pointer (some ⟨b,0,none⟩)] w fun e w' => e = .returned (.tuple #[])∧(Lib.BuilderAtF 83 5 B b (.pointer (some ⟨b,0,none⟩)) bs w'∧Below B w w'∧Lib.OthersKept 5 (some b) w w'):=by
 rcases h with h | h
 ·refine (copyCheck_fresh b w h.cell0 h.shape h.frozen0).mono ?_
  rintro e w' ⟨rfl,rfl⟩
  exact ⟨rfl,h.used _,(Below.refl B w).setCell (p:=⟨b,0,none⟩) h.1 _,(Lib.OthersKept.refl _ _ w).setCell ⟨b,0,none⟩ rfl _⟩
 ·refine (copyCheck_used b w h.cell0).mono ?_
  rintro e w' ⟨rfl,rfl⟩
  exact ⟨rfl,h,Below.refl B _,Lib.OthersKept.refl _ _ _⟩
set_option maxHeartbeats 2000000 in
set_option maxRecDepth 100000 in
theorem writeByte_any (B b:Nat) (bs:List Value) (c:Int) (w:World) (h:BldF B b bs w) (hlen:bs.length + 1≤140737488355328) (hBw:B≤w.heap.size) :
    Calls Tryz.prog 104 #[.pointer (some ⟨b,0,none⟩),.int .u8 c] w fun e w' => e = .returned .nilIface∧(BldF B b (bs ++ [.int .u8 c]) w'∧Below B w w'∧Lib.OthersKept 5 (some b) w w'):=by
 obtain ⟨i0,hi,hz0,hz1,hz2⟩:=info_parts byte_info
 go_enter Tryz.func104,Tryz.ntmps104
 go_wp2_with (go_at_call 65; refine (copyCheck_any B b bs _ h).mono ?_)
 rintro e w1 ⟨rfl,h1,hb1,hk1⟩
 obtain ⟨hB,v,hbk,hown,hne⟩:=h1
 have c0:w1.cell? ⟨b,0,none⟩ = some (.pointer (some ⟨b,0,none⟩)):=by rw [Lib.cell_of_heap hbk]; rfl
 have c1:w1.cell? ⟨b,1,none⟩ = some v:=by rw [Lib.cell_of_heap hbk]; rfl
 go_wp2_with (at_builtin; refine wpList_append_ownF _ rfl _ _ 81 rfl B 5 i0 (.int .u8 0) 1 1 Tryz.underlying81 hi hz0 hz1 hz2 rfl (by decide) _ _ _ rfl (hown.alloc _) ⟨w1.heap.size,0,none⟩ 1 1 [.int .u8 c] rfl rfl ?c1 ?c2 ?c3 ?c4 ?c5 ?_)
 case c1 =>
  intro j u hj
  match j,hj with
  | 0,hj => simp at hj; subst hj; simp [Addr.add]
 case c2 => intro u hu; simp at hu; subst hu; rfl
 case c3 => unfold maxLen; omega
 case c4 => omega
 case c5 => have:=hb1.size; simp; omega
 intro v' w2 hown' hgrow _
 have hlt:b < w1.heap.size:=by
  rcases Nat.lt_or_ge b w1.heap.size with h' | h'
  ·exact h'
  ·simp [Array.getElem?_eq_none h'] at hbk
 have hb2:w2.heap[b]? = some (.cells #[.pointer (some ⟨b,0,none⟩),v] 83 (0,0)):=by
  rw [hgrow.block b (by simp; omega) (fun e => hne e.symm),Lib.alloc_old w1 _ b hlt]
  exact hbk
 have d0:w2.cell? ⟨b,0,none⟩ = some (.pointer (some ⟨b,0,none⟩)):=by rw [Lib.cell_of_heap hb2]; rfl
 have d1:w2.cell? ⟨b,1,none⟩ = some v:=by rw [Lib.cell_of_heap hb2]; rfl
 have f1:w2.frozen? ⟨b,1,none⟩ = false:=Lib.frozen_of_heap hb2 1
 obtain ⟨g,cap,rfl⟩:∃ g cap,v' = .slice (some ⟨g,0,none⟩) (bs.length + 1) cap:=by
  rcases hown'.2 with ⟨_,h0⟩ | ⟨g,cap,cur,fz,hv,_⟩
  ·omega
  ·exact ⟨g,cap,hv⟩
 go_wp2
 go_ret
 refine ⟨rfl,.inr ?_,?_,((hk1.alloc _).grown hgrow (Lib.ownsRowF_kind (hown.alloc _))).setCell ⟨b,1,none⟩ rfl _⟩
 ·exact Lib.BuilderAtF.put (T:=83) (e:=5) hB hb2 (bs':=bs ++ [.int .u8 c]) (by simpa using hown') (by decide)
 ·exact ((hb1.alloc (by have:=hb1.size; omega) _).grown hgrow (by have:=hb1.size; simp; omega) (fun k hk => (hown.lt k hk).1)).setCell (p:=⟨b,1,none⟩) hB _
set_option maxHeartbeats 2000000 in
set_option maxRecDepth 100000 in
theorem writeString_any (B b:Nat) (bs:List Value) (s:ByteArray) (w:World) (h:BldF B b bs w) (hlen:bs.length + s.size≤140737488355328) (hBw:B≤w.heap.size) :
    Calls Tryz.prog 29 #[.pointer (some ⟨b,0,none⟩),.string s] w fun e w' => e = .returned (.tuple #[.int .i64 s.size,.nilIface])∧(BldF B b (bs ++ Lib.strCells s) w'∧Below B w w'∧Lib.OthersKept 5 (some b) w w'):=by
 obtain ⟨i0,hi,hz0,hz1,hz2⟩:=info_parts byte_info
 go_enter Tryz.func29,Tryz.ntmps29
 go_wp2_with (go_at_call 65; refine (copyCheck_any B b bs _ h).mono ?_)
 rintro e w1 ⟨rfl,h1,hb1,hk1⟩
 obtain ⟨hB,v,hbk,hown,hne⟩:=h1
 have c0:w1.cell? ⟨b,0,none⟩ = some (.pointer (some ⟨b,0,none⟩)):=by rw [Lib.cell_of_heap hbk]; rfl
 have c1:w1.cell? ⟨b,1,none⟩ = some v:=by rw [Lib.cell_of_heap hbk]; rfl
 go_wp2_with (at_builtin; refine Lib.wpList_append_own_stringF _ rfl _ _ 81 9 rfl B 5 i0 Tryz.underlying81 Tryz.underlying9 hi hz0 hz1 hz2 _ _ _ rfl hown s rfl ?c3 ?c4 ?c5 ?_)
 case c3 => unfold maxLen; omega
 case c4 => omega
 case c5 => have:=hb1.size; omega
 intro v' w2 hown' hgrow _
 have hlt:b < w1.heap.size:=by
  rcases Nat.lt_or_ge b w1.heap.size with h' | h'
  ·exact h'
  ·simp [Array.getElem?_eq_none h'] at hbk
 have hb2:w2.heap[b]? = some (.cells #[.pointer (some ⟨b,0,none⟩),v] 83 (0,0)):=by
  rw [hgrow.block b hlt (fun e => hne e.symm)]
  exact hbk
 have d0:w2.cell? ⟨b,0,none⟩ = some (.pointer (some ⟨b,0,none⟩)):=by rw [Lib.cell_of_heap hb2]; rfl
 have d1:w2.cell? ⟨b,1,none⟩ = some v:=by rw [Lib.cell_of_heap hb2]; rfl
 have f1:w2.frozen? ⟨b,1,none⟩ = false:=Lib.frozen_of_heap hb2 1
 obtain ⟨ao,n',cap,rfl⟩:∃ ao n' cap,v' = .slice ao n' cap:=by
  rcases hown'.2 with ⟨hv,_⟩ | ⟨g,cap,cur,fz,hv,_⟩
  ·exact ⟨_,_,_,hv⟩
  ·exact ⟨_,_,_,hv⟩
 go_wp2
 go_ret2
 refine ⟨rfl,.inr ?_,?_,(hk1.grown hgrow (Lib.ownsRowF_kind hown)).setCell ⟨b,1,none⟩ rfl _⟩
 ·exact Lib.BuilderAtF.put (T:=83) (e:=5) hB hb2 (bs':=bs ++ Lib.strCells s) (by simpa [Lib.strCells_length] using hown') (by decide)
 ·exact (hb1.grown hgrow (by have:=hb1.size; omega) (fun k hk => (hown.lt k hk).1)).setCell (p:=⟨b,1,none⟩) hB _
end Go.Proofs.YtcondkihpmmnnaaGreatDoor
namespace Go.Proofs.YtcondkihpmmnnaaGreatDoor
theorem filter_apart {α:Type} (p q:α→Bool) (h:∀ a,p a = true→q a = false):∀ l:List α,(l.filter p).length + (l.filter q).length = (l.filter fun a => p a || q a).length
 | [] => rfl
 | a :: l => by
  have ih:=filter_apart p q h l
  rcases hp:p a with _ | _
  ·rcases hq:q a with _ | _
   ·simp [hp,hq,ih]
   ·simp [hp,hq]; omega
  ·have hq:=h a hp
   simp [hp,hq]; omega
theorem behindF_len (arcs:List Ar) (b:Nat):∀ l:List Tp,(l.map Tp.st).Nodup→(behindF arcs l b).length = (arcs.filter fun a => l.any (fun x => a.fr == x.st) && a.set.m b).length
 | [],_ => by
  rw [List.filter_eq_nil_iff.2 (fun a _ => by simp)]
  rfl
 | x :: l,hd => by
  rw [List.map_cons,List.nodup_cons] at hd
  have ih:=behindF_len arcs b l hd.2
  have e:behindF arcs (x :: l) b = ((arcs.filter fun a => a.fr == x.st && a.set.m b).map fun a => (⟨a.to,x.out ++ a.putB b⟩:Tp)) ++ behindF arcs l b:=rfl
  rw [e,List.length_append,List.length_map,ih,filter_apart]
  ·congr 2
   funext a
   rw [List.any_cons,Bool.and_or_distrib_right]
  ·intro a ha
   rw [Bool.and_eq_true,beq_iff_eq] at ha
   rw [Bool.and_eq_false_iff]
   left
   rw [List.any_eq_false]
   intro y hy hc
   rw [beq_iff_eq] at hc
   exact hd.1 (List.mem_map.2 ⟨y,hy,by rw [← hc,ha.1]⟩)
theorem behindF_short (arcs:List Ar) (b:Nat) (l:List Tp) (hd:(l.map Tp.st).Nodup):(behindF arcs l b).length≤arcs.length:=by
 rw [behindF_len arcs b l hd]
 exact List.length_filter_le _ _
end Go.Proofs.YtcondkihpmmnnaaGreatDoor
namespace Go.Proofs.YtcondkihpmmnnaaGreatDoor
open Go.RowKit Go.Sort
theorem word_not (m:Nat→Bool) (i:Nat):bits .xor .u64 (if IntKind.u64.signed = true then -1 else IntKind.u64.max) ((word m i:Nat):Int) = ((word (sNot m) i:Nat):Int):=by
 have e:(if IntKind.u64.signed = true then (-1:Int) else IntKind.u64.max) = ((18446744073709551615:Nat):Int):=by decide
 rw [e,u64_xor_nat _ _ (by decide) (word_lt m i)]
 congr 1
 apply Nat.eq_of_testBit_eq
 intro j
 rw [Nat.testBit_xor,full_testBit,word_testBit,word_testBit]
 unfold sNot
 cases decide (j < 64) <;> simp
theorem word_none (m:Nat→Bool) (i:Nat) (h:∀ k,k < 64→m (64 * i + k) = false):word m i = 0 :=
 word_of 0 (by decide) m i (fun k hk => by rw [h k hk]; simp)
theorem sCells_none (m:Nat→Bool) (h:∀ b,m b = false):sCells m = #[.int .u64 0,.int .u64 0,.int .u64 0,.int .u64 0]:=by
 unfold sCells
 rw [word_none m 0 (fun _ _ => h _),word_none m 1 (fun _ _ => h _),word_none m 2 (fun _ _ => h _),word_none m 3 (fun _ _ => h _)]
 rfl
def byteVals (l:List Nat):List Value:=l.map fun b => .int .u8 ((b:Nat):Int)
theorem byte_cell {w:World} {B n:Nat} {A:Option Addr} {l:List Nat} (HR:Reads w B 1 A n (byteVals l)) (k:Nat) (hk:k < l.length) :
    ∃ ad,A = some ad∧w.cell? (ad.add k) = some (.int .u8 ((l[k]:Nat):Int)):=by
 have hn:=HR.1
 simp [byteVals] at hn
 obtain ⟨ad,e,_,hc⟩:=HR.2 (by omega)
 exact ⟨ad,e,hc k _ (by simp [byteVals,hk])⟩
set_option maxHeartbeats 1000000 in
theorem of_any (A:Option Addr) (n c B:Nat) (l:List Nat) (w:World) (HR0:Reads w B 1 A n (byteVals l)) (hB:B≤w.heap.size) (hl:∀ b∈l,b < 256) (hc:n≤c) (hm:c≤maxLen) :
    Calls Tryz.prog 19 #[.slice A n c] w (Gives (.agg #[.int .u64 ((word ((sOf l)) 0:Nat):Int),.int .u64 ((word ((sOf l)) 1:Nat):Int),.int .u64 ((word ((sOf l)) 2:Nat):Int),.int .u64 ((word ((sOf l)) 3:Nat):Int)]) w):=by
 have HR:=HR0.more hB
 clear HR0
 have hn:=HR.1
 simp [byteVals] at hn
 subst hn
 unfold maxLen at hm
 have HL:=Lib.hid hl
 clear hl
 go_enter Tryz.func19,Tryz.ntmps19
 go_wp2
 go_loopw [5,8] (fun _ i wr => ∃ k:Nat,k≤l.length∧i = .int .i64 k∧Blk wr (w.heap.size + 1) 58 (sCells (sOf (l.take k))) ∧
  Blk wr w.heap.size 58 #[.int .u64 0,.int .u64 0,.int .u64 0,.int .u64 0]∧Below w.heap.size w wr) (fun _ i _ => l.length - (intOf i).toNat)
 case atStart =>
  refine ⟨0,by omega,rfl,?_,?_,(((Below.refl _ _).alloc (Nat.le_refl _) _).alloc (by simp) _)⟩
  ·rw [sCells_none _ (fun _ => by simp [sOf])]
   have:=Blk.new (w.alloc (.cells #[.int .u64 0,.int .u64 0,.int .u64 0,.int .u64 0] 58)) 58 #[.int .u64 0,.int .u64 0,.int .u64 0,.int .u64 0]
   simp only [World.size_alloc] at this
   exact this
  ·exact (Blk.new w _ _).alloc _
 case round =>
  obtain ⟨k,hk,rfl,hb0,hb2,HB⟩:=hrel
  by_cases hlt:k < l.length
  ·obtain ⟨ad,rfl,hck⟩:=byte_cell (HR.below HB) k hlt
   have hlk:=HL.out _ (List.getElem_mem hlt)
   have e1:l.take (k + 1) = l.take k ++ [l[k]]:=List.take_succ_eq_append_getElem hlt
   generalize l[k] = b at *
   have c0:=hb0.cellAt (b / 64) (by omega)
   have f0:=hb0.frozen (b / 64)
   have E1:=Lib.hid e1
   clear e1
   go_wp2
   go_roundw
   case rel =>
    refine ⟨k + 1,by omega,by go_num,?_,(hb2.far (p:=⟨w.heap.size + 1,b / 64,none⟩) (by simp) _),(HB.setCell (p:=⟨w.heap.size + 1,b / 64,none⟩) (by simp) _)⟩
    rw [E1.out,sOf_snoc,← sCells_ins _ b hlk]
    exact hb0.set_ (b / 64) _
   case measure => simp [intOf]; omega
  ·have e1:l.take k = l:=List.take_of_length_le (by omega)
   rw [e1] at hb0
   obtain ⟨c0,c1,c2,c3⟩:=hb0.cells4
   have g0:=hb2.cell 0
   have g1:=hb2.cell 1
   have g2:=hb2.cell 2
   have g3:=hb2.cell 3
   have f0:=hb2.frozen 0
   have f1:=hb2.frozen 1
   have f2:=hb2.frozen 2
   have f3:=hb2.frozen 3
   simp at g0 g1 g2 g3
   go_wp2
   exact bodyPost_ret (v:=.agg #[.int .u64 ((word ((sOf l)) 0:Nat):Int),.int .u64 ((word ((sOf l)) 1:Nat):Int),.int .u64 ((word ((sOf l)) 2:Nat):Int),.int .u64 ((word ((sOf l)) 3:Nat):Int)]) (by simp [results,Tryz.results19,go_sem,g0,g1,g2,g3]) rfl
    ⟨rfl,(((HB.setCell (p:=⟨w.heap.size,0,none⟩) (by simp) _).setCell (p:=⟨w.heap.size,1,none⟩) (by simp) _).setCell (p:=⟨w.heap.size,2,none⟩) (by simp) _).setCell (p:=⟨w.heap.size,3,none⟩) (by simp) _⟩
def sRun (f j:Nat):Nat→Bool:=fun b => decide (f≤b) && decide (b < f + j)
theorem sRun_succ (f j:Nat):sRun f (j + 1) = sIns (sRun f j) (f + j):=by
 funext x
 simp only [sRun,sIns]
 rw [Bool.eq_iff_iff]
 simp
 omega
theorem sRun_span (f t:Nat):sRun f (t + 1 - f) = sSpan f t:=by
 funext x
 simp only [sRun,sSpan]
 rw [Bool.eq_iff_iff]
 simp
 omega
end Go.Proofs.YtcondkihpmmnnaaGreatDoor
namespace Go.Proofs.YtcondkihpmmnnaaGreatDoor
open Go.ChangeShapes Go.WideShapes Go.ChangeAt Go.RowKit
open Go.ChangeMaps (open_string shut_string)
theorem ownNone:ownKnob Tryz.prog.godebug = none:=by kernel_rfl
theorem laidOut:laidOutB Tryz.prog = true:=by kernel_rfl
section
variable {H:Type} {enc:TypeId × Value→H} {P:Program}
theorem trodAll_stays (hl:laidOutB P = true) {W W':World} (hb:Below W.heap.size W W') {sp:Nat→Bool} :
    ∀ {ts:List TypeId} {vs:List Value} {ds:List (DataW H)} {ps:List MemPlace},(ts.all fun t => P.readableRec t && decide (t < P.types.size)) = true →
     DataW.TrodAll enc P W 0 (fun _ => true) true ts vs ds ps→(∀ x∈ps,x.block < W.heap.size)→(∀ x∈ps,sp x.block = true)→DataW.TrodAll enc P W' 0 sp true ts vs ds ps
 | [],[],[],_,_,h,_,_ => h
 | t :: ts,v :: vs,d :: ds,ps,hr,h,hlt,hsp => by
  obtain ⟨p,q,h1,h2,rfl⟩:=h
  simp only [List.all_cons,Bool.and_eq_true,decide_eq_true_eq] at hr
  exact ⟨p,q,WideElems.Trod_stays hl hr.1.1 hr.1.2 h1 (fun x hx => hb.same (hlt x (List.mem_append_left _ hx))) (fun x hx => hsp x (List.mem_append_left _ hx)),
   trodAll_stays hl hb hr.2 h2 (fun x hx => hlt x (List.mem_append_right _ hx)) (fun x hx => hsp x (List.mem_append_right _ hx)),rfl⟩
 | [],_ :: _,_,_,_,h,_,_ => by simp [DataW.TrodAll] at h
 | [],[],_ :: _,_,_,h,_,_ => by simp [DataW.TrodAll] at h
 | _ :: _,[],_,_,_,h,_,_ => by simp [DataW.TrodAll] at h
 | _ :: _,_ :: _,[],_,_,h,_,_ => by simp [DataW.TrodAll] at h
theorem post_of_below {f:Func} {s:ChangeSpec} {apart fresh handsOn again:Bool} {W W':World} {args:Array Value} {v:Value} {ds gs:List (DataW H)} {before pa pv:List MemPlace}
    (hW:DataW.Whole enc P f.params.toList s.vars apart W args.toList ds gs before)
    (hres:∀ (b:Nat) (sp:Nat→Bool) (hd:Bool),DataW.TrodAll enc P W' b sp hd f.resultTypes.toList (v.resultList f.resultTypes.size) (s.fn H (ds ++ gs)).results [])
    (hargs:∀ sp:Nat→Bool,(∀ p∈before,sp p.block = true)→DataW.TrodAll enc P W' 0 sp true f.params.toList args.toList (s.fn H (ds ++ gs)).args pa)
    (hvars:∀ sp:Nat→Bool,(∀ p∈before,sp p.block = true)→DataW.TrodVars enc P W' sp s.vars (s.fn H (ds ++ gs)).vars pv)
    (hps:before = pa ++ pv) (hb:Below W.heap.size W W')
    (hok:∀ (j:Nat) (t:TypeId) (r:Value),f.resultTypes[j]? = some t→(v.resultList f.resultTypes.size)[j]? = some r→Value.okWide P W' .any 0 t r) :
    s.post enc P f apart fresh handsOn again W args v W':=by
 have hlt:∀ p∈before,p.block < W.heap.size:=fun p hp => hW.lt p hp
 have hold:∀ p∈before,(fun b => decide (b < W.heap.size)) p.block = true:=fun p hp => by simpa using hlt p hp
 refine ⟨ds,gs,before,[],pa,pv,hW,hres _ _ _,hargs _ hold,hvars _ hold,World.keptBut_mono (fun p hp => ⟨hp,?_⟩) (hb.frame (·∈before)),fun _ => ?_⟩
 ·rw [hps,List.mem_append] at hp
  exact Or.inr hp
 ·obtain ⟨_,_,_,_,_,hz,hn⟩:=hW
  refine ⟨hok,_,_,([] ++ pa) ++ pv,⟨[] ++ pa,pv,trodAll_append (hargs _ (fun _ _ => rfl)) (hres _ _ _),hvars _ (fun _ _ => rfl),rfl,?_,?_⟩,?_⟩
  ·intro b off hp
   have hin:MemPlace.cell b off∈before:=by rw [hps]; simpa using hp
   rw [hb.frozen (hlt _ hin)]
   exact hz b off hin
  ·intro ha
   have:=hn ha
   rw [hps] at this
   simpa using this
  ·intro p hp _
   rw [hps]
   simpa using hp
theorem law_lifted {C:Checked} {os:Os} {f:FuncId} {fn:Func} {s:ChangeSpec} {tb:TypeId} (own:ownKnob C.prog.godebug = none) (started:os.Started) (noInit:C.prog.inits.idxOf? f = none) (hfn:C.prog.funcs[f]? = some fn)
    (hl:laidOutB C.prog = true) (hv:s.vars = [])
    (hs:∀ ds:List (DataW H),ds.length = fn.params.size→s.fn H ds = { results:=[.lit (.bool true)],args:=ds })
    (hr:fn.resultTypes = #[tb]) (htb:C.prog.underlying tb = some .bool) (hp:(fn.params.toList.all fun t => C.prog.readableRec t && decide (t < C.prog.types.size)) = true)
    (witness:∃ (w:World) (tape:Tape) (i:Input),w.os = os∧(w.forCall tape i).Shaped C.prog∧i.vars = []∧Input.okWide C.prog (w.forCall tape i) .any w.heap.size f i ∧
     s.pre6 enc C.prog fn [] false (w.forCall tape i).memory i.args∧({}:Assume).holds C.prog (lone (Frame.enter C.prog f i.args .normal) [] (w.forCall tape i)))
    (walk:∀ (W:World) (base:Nat) (args:Array Value) (ds:List (DataW H)) (before:List MemPlace),
     (∀ (j:Nat) t v,fn.params[j]? = some t→args[j]? = some v→Value.okWide C.prog W .any base t v) →
     DataW.TrodAll enc C.prog W 0 (fun _ => true) true fn.params.toList args.toList ds before→(∀ p∈before,p.block < W.heap.size) →
     (DataW.weightsEach C.prog fn.params.toList ds).all (·≤reachBytes) = true →
     Calls C.prog f args W (Gives (.bool true) W)) :
    ReturnsInHanded {} C os f .any (s.pre6 enc C.prog fn [] false) (s.post enc C.prog fn false true false false):=by
 refine returnsInHanded_of_change_sized own started noInit hfn witness ?_
 intro W base args ds gs before hval hW _ hsz _
 have hlt:∀ p∈before,p.block < W.heap.size:=fun p hp => hW.lt p hp
 have hW':=hW
 rw [hv] at hW'
 obtain ⟨p,q,hA,hV,rfl,_,_⟩:=hW'
 obtain ⟨rfl,rfl⟩:=trodVars_none hV
 simp only [List.append_nil] at hlt
 have hsz':(DataW.weightsEach C.prog fn.params.toList ds).all (·≤reachBytes) = true:=by
  have e:s.plain.varTypes C.prog = []:=by
   simp [ChangeSpec.plain,DataSpec.varTypes,hv]
  rw [e] at hsz
  simpa using hsz
 have hlen:ds.length = fn.params.size:=by
  have:∀ {ts:List TypeId} {vs:List Value} {ds:List (DataW H)} {ps:List MemPlace},DataW.TrodAll enc C.prog W 0 (fun _ => true) true ts vs ds ps→ds.length = ts.length:=by
   intro ts
   induction ts with
   | nil => intro vs ds ps h; cases vs <;> cases ds <;> simp_all [DataW.TrodAll]
   | cons t ts ih =>
    intro vs ds ps h
    cases vs with
    | nil => simp [DataW.TrodAll] at h
    | cons v vs =>
     cases ds with
     | nil => simp [DataW.TrodAll] at h
     | cons d ds =>
      obtain ⟨_,_,_,h2,_⟩:=h
      simpa using ih h2
  simpa using this hA
 refine (walk W base args ds p hval hA hlt hsz').mono fun e W' ⟨he,hb⟩ => ⟨_,he,?_⟩
 have e1:s.fn H (ds ++ []) = { results:=[.lit (.bool true)],args:=ds }:=by rw [List.append_nil]; exact hs ds hlen
 refine post_of_below (pa:=p) (pv:=[]) hW ?_ ?_ ?_ (by simp) hb (ok_one hr rfl (okWide_bool_mk htb _))
 ·intro b sp hd
  rw [e1,hr]
  exact trodAll_mk1 (shut_bool htb _)
 ·intro sp hsp
  rw [e1]
  exact trodAll_stays hl hb hp hA hlt (fun x hx => hsp x (by simpa using hx))
 ·intro sp _
  rw [e1,hv]
  rfl
end
section
variable {H:Type} {enc:TypeId × Value→H} {P:Program}
theorem row_block {a:Addr} {n:Nat} {B:Nat} (h:∀ x∈MemPlace.row a n,x.block < B) (hn:0 < n):a.block < B:=by
 have:=h (.cell a.block (a.off + 0)) (List.mem_map.2 ⟨0,by simpa using hn,rfl⟩)
 exact this
theorem open_strs {r:Reach} {b:Nat} {t e:TypeId} {W:World} {v:Value} {d:DataW H} {ps:List MemPlace} (ht:P.underlying t = some (.slice e)) (he:P.underlying e = some .string) (hc:P.cellsOf e = 1)
    (hval:Value.okWide P W r b t v) (hd:DataW.Trod enc P W 0 (fun _ => true) true t v d ps) (hlt:∀ x∈ps,x.block < W.heap.size) :
    ∃ (A:Option Addr) (c:Nat) (ss:List ByteArray),v = .slice A ss.length c∧Reads W W.heap.size 1 A ss.length (ss.map Value.string)∧ss.length≤c∧c≤maxLen∧∀ s∈ss,s.size≤maxLen:=by
 obtain ⟨a0,len,cap,rfl⟩:=okWide_slice ht hval
 obtain ⟨fuel,hf⟩:=hd
 rcases open_strings ht he hc hf with ⟨hcs,hx⟩ | ⟨a,len',cap',ss,hcs,_,hl,hm,hz,hx,hcell,hws⟩
 ·simp [Value.cells] at hcs
  obtain ⟨rfl,rfl,rfl⟩:=hcs
  exact ⟨none,0,[],rfl,Reads.none_,Nat.le_refl _,Nat.zero_le _,by simp⟩
 ·simp [Value.cells] at hcs
  obtain ⟨rfl,rfl,rfl⟩:=hcs
  simp only [if_true] at hz
  simp only [Prod.mk.injEq] at hx
  obtain ⟨rfl,rfl⟩:=hx
  have hlen:(ss.take len).length = len:=by rw [List.length_take]; omega
  refine ⟨some a,cap,ss.take len,by rw [hlen],⟨by simp,fun h0 => ⟨a,rfl,row_block hlt (by omega),fun j u hu => ?_⟩⟩,by omega,hm,fun s hs => hws s (List.mem_of_mem_take hs)⟩
  have hj:j < len:=by
   have:=(List.getElem?_eq_some_iff.1 hu).1
   simp at this; omega
  rw [hcell j (by omega)]
  simp only [List.getElem?_map,List.getElem?_take,hj,if_true] at hu
  rw [List.getElem?_eq_getElem (by omega)] at hu
  simp at hu
  rw [← hu,List.getD_eq_getElem?_getD,List.getElem?_eq_getElem (by omega)]
  rfl
end
end Go.Proofs.YtcondkihpmmnnaaGreatDoor
