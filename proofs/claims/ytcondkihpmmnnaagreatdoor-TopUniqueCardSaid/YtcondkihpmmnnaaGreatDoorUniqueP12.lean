/- Lemmas, part 12 of 39. No condition. -/
import Derived.Test.YtcondkihpmmnnaaGreatDoorUniqueP01
import Derived.Shelf.Strings.BuilderK
import Derived.Test.YtcondkihpmmnnaaGreatDoorUniqueP04
import Derived.Test.YtcondkihpmmnnaaGreatDoorUniqueP10
import Derived.Test.YtcondkihpmmnnaaGreatDoorUniqueP06
namespace Go.Proofs.YtcondkihpmmnnaaGreatDoor
open Go.RowKit
theorem bld_size:(Tryz.prog.info? 83).map (·.size) = some 2:=by kernel_rfl
theorem bld_lies:liesAt Tryz.prog Tryz.prog.depth 83 (2 / Tryz.prog.cellsOf 83) 0 83 1 = true:=by kernel_rfl
theorem byte_info:(Tryz.prog.info? 5).map (fun i => (i.zero,i.size,i.bytes)) = some (some (.int .u8 0),1,1):=by kernel_rfl
set_option maxHeartbeats 1000000 in
set_option maxRecDepth 100000 in
theorem copyCheck_fresh (b:Nat) (w:World) (h0:w.cell? ⟨b,0,none⟩ = some (.pointer none)) (hsh:w.shape? b = some (83,2)) (hfz:w.frozen? ⟨b,0,none⟩ = false) :
    Calls Tryz.prog 65 #[.pointer (some ⟨b,0,none⟩)] w fun e w' => e = .returned (.tuple #[])∧w' = w.setCell ⟨b,0,none⟩ (.pointer (some ⟨b,0,none⟩)):=by
 obtain ⟨j,hj,hjs⟩:=Option.map_eq_some_iff.1 bld_size
 go_enter Tryz.func65,Tryz.ntmps65
 go_wp2
 rw [Lib.run_to_unsafe w ⟨b,0,none⟩ Tryz.underlying80 Tryz.underlying183 hj (by rw [hjs]; decide) hsh (Nat.zero_lt_succ 1)]
 simp only [Result.andThen]
 rw [Oper.upon_value]
 go_wp2
 rw [run_callFunc_extern Tryz.func99 (by kernel_rfl) (by kernel_rfl) (by kernel_rfl) (e:=Extern.AbiNoEscape.same) (by kernel_rfl)]
 rw [Lib.run_noEscape]
 simp only [Result.andThen]
 rw [Oper.upon_value]
 go_wp2
 rw [Lib.run_from_unsafe w ⟨b,0,none⟩ Tryz.underlying183 Tryz.underlying80 hj hsh bld_lies]
 simp only [Result.andThen]
 rw [Oper.upon_value]
 go_wp2
 go_end0
 exact ⟨rfl,rfl⟩
set_option maxHeartbeats 1000000 in
set_option maxRecDepth 100000 in
theorem copyCheck_used (b:Nat) (w:World) (h0:w.cell? ⟨b,0,none⟩ = some (.pointer (some ⟨b,0,none⟩))) :
    Calls Tryz.prog 65 #[.pointer (some ⟨b,0,none⟩)] w fun e w' => e = .returned (.tuple #[])∧w' = w:=by
 obtain ⟨j,hj,hjs⟩:=Option.map_eq_some_iff.1 bld_size
 have hne:=Lib.run_neq_ptr_same w (P:=Tryz.prog) ⟨b,0,none⟩ Tryz.underlying80 hj
 go_enter Tryz.func65,Tryz.ntmps65
 go_wp2
 go_end0
 exact ⟨rfl,rfl⟩
abbrev BldF (B b:Nat) (bs:List Value) (w:World):Prop:=Lib.IsBuilderF 83 5 B b bs w
theorem copyCheck_any (B b:Nat) (bs:List Value) (w:World) (h:BldF B b bs w) :
    Calls Tryz.prog 65 #[.pointer (some ⟨b,0,none⟩)] w fun e w' => e = .returned (.tuple #[])∧(Lib.BuilderAtF 83 5 B b (.pointer (some ⟨b,0,none⟩)) bs w'∧Below B w w'∧Lib.OthersKept 5 (some b) w w'):=by
 rcases h with h | h
 ·refine (copyCheck_fresh b w h.cell0 h.shape h.frozen0).mono ?_
  rintro e w' ⟨rfl,rfl⟩
  exact ⟨rfl,h.used _,(Below.refl B w).setCell (p:=⟨b,0,none⟩) h.1 _,(Lib.OthersKept.refl _ _ w).setCell ⟨b,0,none⟩ rfl _⟩
 ·refine (copyCheck_used b w h.cell0).mono ?_
  rintro e w' ⟨rfl,rfl⟩
  exact ⟨rfl,h,Below.refl B _,Lib.OthersKept.refl _ _ _⟩
set_option maxHeartbeats 2000000 in
set_option maxRecDepth 100000 in
theorem writeByte_any (B b:Nat) (bs:List Value) (c:Int) (w:World) (h:BldF B b bs w) (hlen:bs.length + 1≤140737488355328) (hBw:B≤w.heap.size) :
    Calls Tryz.prog 104 #[.pointer (some ⟨b,0,none⟩),.int .u8 c] w fun e w' => e = .returned .nilIface∧(BldF B b (bs ++ [.int .u8 c]) w'∧Below B w w'∧Lib.OthersKept 5 (some b) w w'):=by
 obtain ⟨i0,hi,hz0,hz1,hz2⟩:=info_parts byte_info
 go_enter Tryz.func104,Tryz.ntmps104
 go_wp2_with (go_at_call 65; refine (copyCheck_any B b bs _ h).mono ?_)
 rintro e w1 ⟨rfl,h1,hb1,hk1⟩
 obtain ⟨hB,v,hbk,hown,hne⟩:=h1
 have c0:w1.cell? ⟨b,0,none⟩ = some (.pointer (some ⟨b,0,none⟩)):=by rw [Lib.cell_of_heap hbk]; rfl
 have c1:w1.cell? ⟨b,1,none⟩ = some v:=by rw [Lib.cell_of_heap hbk]; rfl
 go_wp2_with (at_builtin; refine wpList_append_ownF _ rfl _ _ 81 rfl B 5 i0 (.int .u8 0) 1 1 Tryz.underlying81 hi hz0 hz1 hz2 rfl (by decide) _ _ _ rfl (hown.alloc _) ⟨w1.heap.size,0,none⟩ 1 1 [.int .u8 c] rfl rfl ?c1 ?c2 ?c3 ?c4 ?c5 ?_)
 case c1 =>
  intro j u hj
  match j,hj with
  | 0,hj => simp at hj; subst hj; simp [Addr.add]
 case c2 => intro u hu; simp at hu; subst hu; rfl
 case c3 => unfold maxLen; omega
 case c4 => omega
 case c5 => have:=hb1.size; simp; omega
 intro v' w2 hown' hgrow _
 have hlt:b < w1.heap.size:=by
  rcases Nat.lt_or_ge b w1.heap.size with h' | h'
  ·exact h'
  ·simp [Array.getElem?_eq_none h'] at hbk
 have hb2:w2.heap[b]? = some (.cells #[.pointer (some ⟨b,0,none⟩),v] 83 (0,0)):=by
  rw [hgrow.block b (by simp; omega) (fun e => hne e.symm),Lib.alloc_old w1 _ b hlt]
  exact hbk
 have d0:w2.cell? ⟨b,0,none⟩ = some (.pointer (some ⟨b,0,none⟩)):=by rw [Lib.cell_of_heap hb2]; rfl
 have d1:w2.cell? ⟨b,1,none⟩ = some v:=by rw [Lib.cell_of_heap hb2]; rfl
 have f1:w2.frozen? ⟨b,1,none⟩ = false:=Lib.frozen_of_heap hb2 1
 obtain ⟨g,cap,rfl⟩:∃ g cap,v' = .slice (some ⟨g,0,none⟩) (bs.length + 1) cap:=by
  rcases hown'.2 with ⟨_,h0⟩ | ⟨g,cap,cur,fz,hv,_⟩
  ·omega
  ·exact ⟨g,cap,hv⟩
 go_wp2
 go_ret
 refine ⟨rfl,.inr ?_,?_,((hk1.alloc _).grown hgrow (Lib.ownsRowF_kind (hown.alloc _))).setCell ⟨b,1,none⟩ rfl _⟩
 ·exact Lib.BuilderAtF.put (T:=83) (e:=5) hB hb2 (bs':=bs ++ [.int .u8 c]) (by simpa using hown') (by decide)
 ·exact ((hb1.alloc (by have:=hb1.size; omega) _).grown hgrow (by have:=hb1.size; simp; omega) (fun k hk => (hown.lt k hk).1)).setCell (p:=⟨b,1,none⟩) hB _
set_option maxHeartbeats 2000000 in
set_option maxRecDepth 100000 in
theorem writeString_any (B b:Nat) (bs:List Value) (s:ByteArray) (w:World) (h:BldF B b bs w) (hlen:bs.length + s.size≤140737488355328) (hBw:B≤w.heap.size) :
    Calls Tryz.prog 29 #[.pointer (some ⟨b,0,none⟩),.string s] w fun e w' => e = .returned (.tuple #[.int .i64 s.size,.nilIface])∧(BldF B b (bs ++ Lib.strCells s) w'∧Below B w w'∧Lib.OthersKept 5 (some b) w w'):=by
 obtain ⟨i0,hi,hz0,hz1,hz2⟩:=info_parts byte_info
 go_enter Tryz.func29,Tryz.ntmps29
 go_wp2_with (go_at_call 65; refine (copyCheck_any B b bs _ h).mono ?_)
 rintro e w1 ⟨rfl,h1,hb1,hk1⟩
 obtain ⟨hB,v,hbk,hown,hne⟩:=h1
 have c0:w1.cell? ⟨b,0,none⟩ = some (.pointer (some ⟨b,0,none⟩)):=by rw [Lib.cell_of_heap hbk]; rfl
 have c1:w1.cell? ⟨b,1,none⟩ = some v:=by rw [Lib.cell_of_heap hbk]; rfl
 go_wp2_with (at_builtin; refine Lib.wpList_append_own_stringF _ rfl _ _ 81 9 rfl B 5 i0 Tryz.underlying81 Tryz.underlying9 hi hz0 hz1 hz2 _ _ _ rfl hown s rfl ?c3 ?c4 ?c5 ?_)
 case c3 => unfold maxLen; omega
 case c4 => omega
 case c5 => have:=hb1.size; omega
 intro v' w2 hown' hgrow _
 have hlt:b < w1.heap.size:=by
  rcases Nat.lt_or_ge b w1.heap.size with h' | h'
  ·exact h'
  ·simp [Array.getElem?_eq_none h'] at hbk
 have hb2:w2.heap[b]? = some (.cells #[.pointer (some ⟨b,0,none⟩),v] 83 (0,0)):=by
  rw [hgrow.block b hlt (fun e => hne e.symm)]
  exact hbk
 have d0:w2.cell? ⟨b,0,none⟩ = some (.pointer (some ⟨b,0,none⟩)):=by rw [Lib.cell_of_heap hb2]; rfl
 have d1:w2.cell? ⟨b,1,none⟩ = some v:=by rw [Lib.cell_of_heap hb2]; rfl
 have f1:w2.frozen? ⟨b,1,none⟩ = false:=Lib.frozen_of_heap hb2 1
 obtain ⟨ao,n',cap,rfl⟩:∃ ao n' cap,v' = .slice ao n' cap:=by
  rcases hown'.2 with ⟨hv,_⟩ | ⟨g,cap,cur,fz,hv,_⟩
  ·exact ⟨_,_,_,hv⟩
  ·exact ⟨_,_,_,hv⟩
 go_wp2
 go_ret2
 refine ⟨rfl,.inr ?_,?_,(hk1.grown hgrow (Lib.ownsRowF_kind hown)).setCell ⟨b,1,none⟩ rfl _⟩
 ·exact Lib.BuilderAtF.put (T:=83) (e:=5) hB hb2 (bs':=bs ++ Lib.strCells s) (by simpa [Lib.strCells_length] using hown') (by decide)
 ·exact (hb1.grown hgrow (by have:=hb1.size; omega) (fun k hk => (hown.lt k hk).1)).setCell (p:=⟨b,1,none⟩) hB _
end Go.Proofs.YtcondkihpmmnnaaGreatDoor
namespace Go.Proofs.YtcondkihpmmnnaaGreatDoor
theorem filter_apart {α:Type} (p q:α→Bool) (h:∀ a,p a = true→q a = false):∀ l:List α,(l.filter p).length + (l.filter q).length = (l.filter fun a => p a || q a).length
 | [] => rfl
 | a :: l => by
  have ih:=filter_apart p q h l
  rcases hp:p a with _ | _
  ·rcases hq:q a with _ | _
   ·simp [hp,hq,ih]
   ·simp [hp,hq]; omega
  ·have hq:=h a hp
   simp [hp,hq]; omega
theorem behindF_len (arcs:List Ar) (b:Nat):∀ l:List Tp,(l.map Tp.st).Nodup→(behindF arcs l b).length = (arcs.filter fun a => l.any (fun x => a.fr == x.st) && a.set.m b).length
 | [],_ => by
  rw [List.filter_eq_nil_iff.2 (fun a _ => by simp)]
  rfl
 | x :: l,hd => by
  rw [List.map_cons,List.nodup_cons] at hd
  have ih:=behindF_len arcs b l hd.2
  have e:behindF arcs (x :: l) b = ((arcs.filter fun a => a.fr == x.st && a.set.m b).map fun a => (⟨a.to,x.out ++ a.putB b⟩:Tp)) ++ behindF arcs l b:=rfl
  rw [e,List.length_append,List.length_map,ih,filter_apart]
  ·congr 2
   funext a
   rw [List.any_cons,Bool.and_or_distrib_right]
  ·intro a ha
   rw [Bool.and_eq_true,beq_iff_eq] at ha
   rw [Bool.and_eq_false_iff]
   left
   rw [List.any_eq_false]
   intro y hy hc
   rw [beq_iff_eq] at hc
   exact hd.1 (List.mem_map.2 ⟨y,hy,by rw [← hc,ha.1]⟩)
theorem behindF_short (arcs:List Ar) (b:Nat) (l:List Tp) (hd:(l.map Tp.st).Nodup):(behindF arcs l b).length≤arcs.length:=by
 rw [behindF_len arcs b l hd]
 exact List.length_filter_le _ _
end Go.Proofs.YtcondkihpmmnnaaGreatDoor
namespace Go.Proofs.YtcondkihpmmnnaaGreatDoor
open Go.RowKit Go.Sort
def faultE (k:Int):Ending:=.panicked [{ v:=.iface 130 (.agg #[.int .i64 k]),recovered:=false }]
theorem short_no (s:ByteArray) (w:World) (_hs:s.size≤maxLen) (h:¬ s.size≤4096) :
    Calls Tryz.prog 95 #[.string s] w (fun e w' => e = faultE 2∧w' = w):=by
 have hz:(s.size:Int) > 4096:=by omega
 unfold maxLen at _hs
 go_enter Tryz.func95,Tryz.ntmps95
 go_wp2
 exact ⟨rfl,rfl,rfl⟩
theorem short_yes (s:ByteArray) (w:World) (h:s.size≤4096) :
    Calls Tryz.prog 95 #[.string s] w (fun e w' => e = .returned (.tuple #[])∧w' = w):=by
 have hz:¬ (s.size:Int) > 4096:=by omega
 have hz2:(s.size:Int)≤4096:=by omega
 go_enter Tryz.func95,Tryz.ntmps95
 go_wp2
 go_end0
 exact ⟨rfl,rfl⟩
end Go.Proofs.YtcondkihpmmnnaaGreatDoor
namespace Go.Proofs.YtcondkihpmmnnaaGreatDoor
open Go.RowKit Go.Sort
theorem str_infoS:(Tryz.prog.info? 9).map (fun i => (i.zero,i.size,i.bytes)) = some (some (.string ByteArray.empty),1,16):=by kernel_rfl
theorem eg_seqC:∀ args w,(callFunc 93 args).run Tryz.prog w = .ok (.enter 93 args) w:=enters_of Tryz.func93 (by kernel_rfl) rfl
def outsV (r:List Tp) (m k:Nat):Array Value:=((List.range m).map fun j => Value.string (if j < k then (r.getD j tp0).out else ByteArray.empty)).toArray
theorem outsV_zero (r:List Tp) (m:Nat):outsV r m 0 = (List.replicate m (Value.string ByteArray.empty)).toArray:=by
 unfold outsV
 congr 1
 apply List.ext_getElem?
 intro j
 rw [List.getElem?_map,List.getElem?_replicate]
 by_cases hj:j < m
 ·rw [List.getElem?_range hj]; simp [hj]
 ·rw [List.getElem?_eq_none (by simpa using hj)]; simp [hj]
theorem outsV_set (r:List Tp) (m k:Nat):(outsV r m k).setIfInBounds k (.string (r.getD k tp0).out) = outsV r m (k + 1):=by
 unfold outsV
 rw [List.setIfInBounds_toArray]
 congr 1
 apply List.ext_getElem?
 intro j
 rw [List.getElem?_set,List.getElem?_map,List.getElem?_map]
 by_cases hj:j < m
 ·rw [List.getElem?_range hj]
  by_cases hx:k = j
  ·subst hx
   simp only [List.length_map,List.length_range,hj,if_true,Option.map_some,Nat.lt_succ_self]
  ·have:(j < k + 1)↔(j < k):=by omega
   simp only [hx,if_false,Option.map_some,this]
 ·have e:(List.range m)[j]? = none:=List.getElem?_eq_none (by simpa using hj)
  rw [e]
  by_cases hx:k = j
  ·subst hx; simp [hj]
  ·simp [hx]
theorem outsV_all (r:List Tp):outsV r r.length r.length = ((r.map Tp.out).map Value.string).toArray:=by
 unfold outsV
 congr 1
 rw [List.map_map]
 apply List.ext_getElem?
 intro j
 rw [List.getElem?_map,List.getElem?_map]
 by_cases hj:j < r.length
 ·rw [List.getElem?_range hj,List.getElem?_eq_getElem hj]
  simp [hj]
 ·rw [List.getElem?_eq_none (by simpa using hj),List.getElem?_eq_none (by omega)]; rfl
theorem twin1_iff:∀ r:List Tp,twin1 r = true↔∃ j,0 < j∧j < r.length∧(r.getD (j - 1) tp0).st = (r.getD j tp0).st
 | [] => Iff.intro (fun h => Bool.noConfusion h) (fun ⟨j,_,h,_⟩ => absurd h (Nat.not_lt_zero _))
 | [x] => Iff.intro (fun h => Bool.noConfusion h) (fun ⟨j,h0,h,_⟩ => by simp at h; omega)
 | x :: y :: l => by
  unfold twin1
  rw [Bool.or_eq_true,beq_iff_eq,twin1_iff (y :: l)]
  constructor
  ·rintro (h | ⟨j,h0,hl,he⟩)
   ·exact ⟨1,by omega,by simp,h⟩
   ·refine ⟨j + 1,by omega,by simp at hl ⊢; omega,?_⟩
    obtain ⟨i,rfl⟩:∃ i,j = i + 1:=⟨j - 1,by omega⟩
    simpa using he
  ·rintro ⟨j,h0,hl,he⟩
   obtain ⟨i,rfl⟩:∃ i,j = i + 1:=⟨j - 1,by omega⟩
   rcases Nat.eq_zero_or_pos i with h | h
   ·subst h; left; simpa using he
   ·right
    obtain ⟨i',rfl⟩:∃ i',i = i' + 1:=⟨i - 1,by omega⟩
    exact ⟨i' + 1,by omega,by simp at hl ⊢; omega,by simpa using he⟩
def cutM (r:List Tp) (n k a:Nat):Tp:=if a < k then cutT n (r.getD a tp0) else r.getD a tp0
theorem cutM_set {w:World} {g m:Nat} {r:List Tp} {n k:Nat} (h:RowM encT 2 w g m (cutM r n k)) (hk:k < m) :
    RowM encT 2 (w.setCell ⟨g,k * 2 + 1,none⟩ (.string (cutT n (r.getD k tp0)).out)) g m (cutM r n (k + 1)):=by
 refine ⟨fun a i u ha hu => ?_,fun x hx => by rw [World.frozen?_setCell]; exact h.2 x hx⟩
 have hi:i < 2:=by
  rcases Nat.lt_or_ge i 2 with h | h
  ·exact h
  ·rw [List.getElem?_eq_none (by rw [encT_len]; exact h)] at hu; cases hu
 by_cases hak:a = k
 ·subst hak
  have e:cutM r n (a + 1) a = cutT n (r.getD a tp0):=if_pos (Nat.lt_succ_self a)
  rw [e] at hu
  have e0:cutM r n a a = r.getD a tp0:=if_neg (Nat.lt_irrefl a)
  match i,hi with
  | 0,_ =>
   rw [World.cell?_setCell_other _ _ _ _ (fun e => by injection e with _ e; omega)]
   refine h.1 a 0 u ha ?_
   rw [e0]
   exact hu
  | 1,_ =>
   have hu':u = .string (cutT n (r.getD a tp0)).out:=(Option.some.inj hu).symm
   subst hu'
   have hc:∃ v,w.cell? ⟨g,a * 2 + 1,none⟩ = some v:=⟨_,h.1 a 1 (.string (r.getD a tp0).out) ha (by rw [e0]; rfl)⟩
   obtain ⟨v,hv⟩:=hc
   exact World.cell?_setCell_same _ _ _ hv
 ·have e:cutM r n (k + 1) a = cutM r n k a:=by
    unfold cutM
    have:(a < k + 1)↔(a < k):=by omega
    simp only [this]
  rw [e] at hu
  rw [World.cell?_setCell_other _ _ _ _ (fun e => by injection e with _ e; omega)]
  exact h.1 a i u ha hu
end Go.Proofs.YtcondkihpmmnnaaGreatDoor
namespace Go.Proofs.YtcondkihpmmnnaaGreatDoor
open Go.RowKit Go.Sort
theorem reads_allocK (w:World) (xs:List Value) (T:TypeId) (k m:Nat) (h:xs.length = m * k):Reads (w.alloc (.cells xs.toArray T)) (w.heap.size + 1) k (some ⟨w.heap.size,0,none⟩) m xs:=by
 refine ⟨h,fun _ => ⟨_,rfl,by simp,fun j u hu => ?_⟩⟩
 rw [add_mk,Nat.zero_add,(Blk.new w T xs.toArray).cell]
 simpa using hu
structure BackW (w wr:World) (cs:Array Value) (G:Nat) (n:Int) (vS vE vA:Value) (S E:List Tp) (A:List Ar):Prop where
 box:Blk wr w.heap.size 27 cs
 res:Blk wr (w.heap.size + 1) 32 #[.int .i64 0,.slice none 0 0,.slice none 0 0,.slice none 0 0]
 t:Blk wr G 32 #[.int .i64 n,vS,vE,vA]
 gG:w.heap.size + 1 < G
 oS:wr.ownsRow (G + 1) 54 2 vS S.length (encs encT S)
 oE:wr.ownsRow (G + 1) 54 2 vE E.length (encs encT E)
 oA:wr.ownsRow (G + 1) 61 8 vA A.length (encs encA A)
 ap:Apart vS vE
 bel:Below w.heap.size w wr
section
variable {w wr w':World} {cs:Array Value} {G:Nat} {n:Int} {vS vE vA:Value} {S E:List Tp} {A:List Ar}
theorem BackW.size (h:BackW w wr cs G n vS vE vA S E A):G < wr.heap.size:=h.t.lt
theorem BackW.call (h:BackW w wr cs G n vS vE vA S E A) (hb:Below wr.heap.size wr w'):BackW w w' cs G n vS vE vA S E A :=
 have hz:=h.size
 have hg:=h.gG
 ⟨h.box.below hb (by omega),h.res.below hb (by omega),h.t.below hb hz,h.gG,own_below h.oS hb,own_below h.oE hb,own_below h.oA hb,h.ap,h.bel.trans (hb.mono (by omega))⟩
theorem own_blk {base:Nat} {e T:TypeId} {size m:Nat} {v:Value} {xs:List Value} (h:wr.ownsRow base e size v m xs) {g:Nat} {c:Array Value} (hb:Blk wr g T c) (hne:e≠T):v.ownBlock≠some g:=own_blk_ne h hb hne
theorem blk_keep {g:Nat} {T:TypeId} {c:Array Value} {row:Option Nat} (hb:Blk wr g T c) (hg:wr.grownBy w' row) (hne:row≠some g):Blk w' g T c:=hb.grown hg (fun e => hne e.symm)
theorem BackW.putA (h:BackW w wr cs G n vS vE vA S E A) {v':Value} {A':List Ar} (hg:wr.grownBy w' vA.ownBlock) (ho:w'.ownsRow (G + 1) 61 8 v' A'.length (encs encA A')) :
    BackW w (w'.setCell ⟨G,3,none⟩ v') cs G n vS vE v' S E A':=by
 have hz:=h.size
 have hgG:=h.gG
 have n0:=own_blk h.oA h.box (by decide)
 have n1:=own_blk h.oA h.res (by decide)
 have n2:=own_blk h.oA h.t (by decide)
 have kt:=blk_keep h.t hg n2
 have kS:=h.oS.kept hg (apart_types h.oS h.oA (by decide)).or_none
 have kE:=h.oE.kept hg (apart_types h.oE h.oA (by decide)).or_none
 refine ⟨(blk_keep h.box hg n0).far (p:=⟨G,3,none⟩) (by simp; omega) _,(blk_keep h.res hg n1).far (p:=⟨G,3,none⟩) (by simp; omega) _,?_,hgG,own_setCell kS (own_blk kS kt (by decide)) _,own_setCell kE (own_blk kE kt (by decide)) _,own_setCell ho (own_blk ho kt (by decide)) _,h.ap,?_⟩
 ·exact kt.set_ 3 v'
 ·exact ((h.bel).grown hg (by omega) (fun k hk => by have:=(own_lt h.oA k hk).1; omega)).setCell (p:=⟨G,3,none⟩) (by show w.heap.size≤G; omega) _
theorem BackW.putE (h:BackW w wr cs G n vS vE vA S E A) {v':Value} {E':List Tp} (hg:wr.grownBy w' vE.ownBlock) (ho:w'.ownsRow (G + 1) 54 2 v' E'.length (encs encT E')) (hl:v'.ownBlock = vE.ownBlock∨v'.ownBlock = some wr.heap.size) :
    BackW w (w'.setCell ⟨G,2,none⟩ v') cs G n vS v' vA S E' A:=by
 have hz:=h.size
 have hgG:=h.gG
 have n0:=own_blk h.oE h.box (by decide)
 have n1:=own_blk h.oE h.res (by decide)
 have n2:=own_blk h.oE h.t (by decide)
 have kt:=blk_keep h.t hg n2
 have kS:=h.oS.kept hg h.ap.or_none
 have kA:=h.oA.kept hg (apart_types h.oA h.oE (by decide)).or_none
 refine ⟨(blk_keep h.box hg n0).far (p:=⟨G,2,none⟩) (by simp; omega) _,(blk_keep h.res hg n1).far (p:=⟨G,2,none⟩) (by simp; omega) _,?_,hgG,own_setCell kS (own_blk kS kt (by decide)) _,own_setCell ho (own_blk ho kt (by decide)) _,own_setCell kA (own_blk kA kt (by decide)) _,?_,?_⟩
 ·exact kt.set_ 2 v'
 ·intro g hg1 hg2
  rcases hl with e | e
  ·exact h.ap g hg1 (by rw [← e]; exact hg2)
  ·rw [e] at hg2
   have:=(own_lt h.oS g hg1).2
   have:=Option.some.inj hg2
   omega
 ·exact ((h.bel).grown hg (by omega) (fun k hk => by have:=(own_lt h.oE k hk).1; omega)).setCell (p:=⟨G,2,none⟩) (by show w.heap.size≤G; omega) _
theorem BackW.putS (h:BackW w wr cs G n vS (.slice none 0 0) vA S E A) {v':Value} {S':List Tp} (hg:wr.grownBy w' vS.ownBlock) (ho:w'.ownsRow (G + 1) 54 2 v' S'.length (encs encT S')) :
    BackW w (w'.setCell ⟨G,1,none⟩ v') cs G n v' (.slice none 0 0) vA S' E A:=by
 have hz:=h.size
 have hgG:=h.gG
 have n0:=own_blk h.oS h.box (by decide)
 have n1:=own_blk h.oS h.res (by decide)
 have n2:=own_blk h.oS h.t (by decide)
 have kt:=blk_keep h.t hg n2
 have kE:=h.oE.kept hg (.inl rfl)
 have kA:=h.oA.kept hg (apart_types h.oA h.oS (by decide)).or_none
 refine ⟨(blk_keep h.box hg n0).far (p:=⟨G,1,none⟩) (by simp; omega) _,(blk_keep h.res hg n1).far (p:=⟨G,1,none⟩) (by simp; omega) _,?_,hgG,own_setCell ho (own_blk ho kt (by decide)) _,own_setCell kE (own_blk kE kt (by decide)) _,own_setCell kA (own_blk kA kt (by decide)) _,?_,?_⟩
 ·exact kt.set_ 1 v'
 ·intro g _ hg2
  cases hg2
 ·exact ((h.bel).grown hg (by omega) (fun k hk => by have:=(own_lt h.oS k hk).1; omega)).setCell (p:=⟨G,1,none⟩) (by show w.heap.size≤G; omega) _
end
end Go.Proofs.YtcondkihpmmnnaaGreatDoor
namespace Go.Proofs.YtcondkihpmmnnaaGreatDoor
open Go.RowKit Go.Sort
def GrpR {α:Type} (enc:α→List Value) (k:Nat) (w:World) (B L n:Nat) (rows:Nat→List α):Prop :=
 L < B∧∀ s,s < n→∃ A c,w.cell? ⟨L,s,none⟩ = some (.slice A (rows s).length c)∧(rows s).length≤c∧c≤maxLen∧Reads w B k A (rows s).length (encs enc (rows s))
variable {α:Type} {enc:α→List Value} {k:Nat} {w w':World} {base B B' L n:Nat} {eL e:TypeId} {vs:List Value} {rows:Nat→List α}
theorem Grp.read (h:Grp enc k w base L n eL e vs rows) (hL:L < w.heap.size):GrpR enc k w w.heap.size L n rows:=by
 refine ⟨hL,fun s hs => ?_⟩
 have hr:=h.row s hs
 obtain ⟨A,c,hv,h1,h2,_⟩:=own_form hr
 have hc:=own_cellAt h.own s hs nilV
 rw [hv] at hc hr
 exact ⟨A,c,hc,h1,h2,Reads.of_own hr⟩
theorem GrpR.below (h:GrpR enc k w B L n rows) (hb:Below B w w'):GrpR enc k w' B L n rows :=
 ⟨h.1,fun s hs => by
  obtain ⟨A,c,h1,h2,h3,h4⟩:=h.2 s hs
  exact ⟨A,c,(hb.cell (p:=⟨L,s,none⟩) h.1).trans h1,h2,h3,h4.below hb⟩⟩
theorem GrpR.more (h:GrpR enc k w B L n rows) (hB:B≤B'):GrpR enc k w B' L n rows :=
 ⟨Nat.lt_of_lt_of_le h.1 hB,fun s hs => by
  obtain ⟨A,c,h1,h2,h3,h4⟩:=h.2 s hs
  exact ⟨A,c,h1,h2,h3,h4.more hB⟩⟩
end Go.Proofs.YtcondkihpmmnnaaGreatDoor
