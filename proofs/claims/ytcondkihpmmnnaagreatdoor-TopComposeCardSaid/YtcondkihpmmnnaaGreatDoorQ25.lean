/- Lemmas, part 25 of 50. No condition. -/
import Derived.Test.YtcondkihpmmnnaaGreatDoorQ23
import Derived.Test.YtcondkihpmmnnaaGreatDoorQ13
import Derived.RangeFuncNested
import Derived.RangeFuncBound
import Derived.RangeFuncCalls
import Derived.RangeFuncLeaves
import Derived.RangeFuncBox
import Derived.Shelf.Abstract
import Derived.Shelf.RegionOpen
import Derived.OwnWalkIn
import Derived.TacticsInMore
import Derived.LoopNIn
import Derived.LoopIn
import Derived.Test.YtcondkihpmmnnaaGreatDoorQ24
import Derived.Test.YtcondkihpmmnnaaGreatDoorQ21
import Derived.Test.YtcondkihpmmnnaaGreatDoorQ10
import Derived.Test.YtcondkihpmmnnaaGreatDoorQ12
import Derived.Test.YtcondkihpmmnnaaGreatDoorQ06
namespace Go.Proofs.YtcondkihpmmnnaaGreatDoor
open Go.RowKit Go.Sort
def onS (l:List Ar) (k s:Nat):List Int:=((l.take k).filter fun a => decide (a.fr = (s:Int))).map Ar.to
def backS (l:List Ar) (k s:Nat):List Int:=((l.take k).filter fun a => decide (a.to = (s:Int))).map Ar.fr
theorem onS_succ (l:List Ar) (k:Nat) (hk:k < l.length) (s:Nat):onS l (k + 1) s = if (s:Int) = (l.getD k ar0).fr then onS l k s ++ [(l.getD k ar0).to] else onS l k s:=by
 unfold onS
 rw [take_next l ar0 k hk,List.filter_append,List.map_append]
 by_cases h:(l.getD k ar0).fr = (s:Int)
 ·rw [if_pos h.symm,List.filter_cons_of_pos (by simpa using h)]; rfl
 ·rw [if_neg (fun x => h x.symm),List.filter_cons_of_neg (by simpa using h)]; simp
theorem backS_succ (l:List Ar) (k:Nat) (hk:k < l.length) (s:Nat):backS l (k + 1) s = if (s:Int) = (l.getD k ar0).to then backS l k s ++ [(l.getD k ar0).fr] else backS l k s:=by
 unfold backS
 rw [take_next l ar0 k hk,List.filter_append,List.map_append]
 by_cases h:(l.getD k ar0).to = (s:Int)
 ·rw [if_pos h.symm,List.filter_cons_of_pos (by simpa using h)]; rfl
 ·rw [if_neg (fun x => h x.symm),List.filter_cons_of_neg (by simpa using h)]; simp
theorem onS_len (l:List Ar) (k s:Nat):(onS l k s).length≤l.length:=by
 unfold onS
 rw [List.length_map]
 exact Nat.le_trans (List.length_filter_le _ _) (by rw [List.length_take]; omega)
theorem backS_len (l:List Ar) (k s:Nat):(backS l k s).length≤l.length:=by
 unfold backS
 rw [List.length_map]
 exact Nat.le_trans (List.length_filter_le _ _) (by rw [List.length_take]; omega)
structure UsW (w wr:World) (Bt Bo Bb L1 L2 n ba:Nat) (cs:Array Value) (v1 v2:List Value) (r1 r2:Nat→List Int):Prop where
 bt:Blk wr Bt 32 cs
 bo:Blk wr Bo 22 #[.slice (some ⟨L1,0,none⟩) n n]
 bb:Blk wr Bb 22 #[.slice (some ⟨L2,0,none⟩) n n]
 g1:Grp encI 1 wr ba L1 n 55 3 v1 r1
 g2:Grp encI 1 wr ba L2 n 55 3 v2 r2
 ne:L1≠L2
 ap:∀ s t,s < n→t < n→Apart (v1.getD s nilV) (v2.getD t nilV)
 bel:Below w.heap.size w wr
 lb:w.heap.size≤ba
section
variable {w wr w':World} {Bt Bo Bb L1 L2 n ba:Nat} {cs:Array Value} {v1 v2:List Value} {r1 r2:Nat→List Int}
theorem UsW.swap (h:UsW w wr Bt Bo Bb L1 L2 n ba cs v1 v2 r1 r2):UsW w wr Bt Bb Bo L2 L1 n ba cs v2 v1 r2 r1 :=
 ⟨h.bt,h.bb,h.bo,h.g2,h.g1,h.ne.symm,fun s t hs ht => (h.ap t s ht hs).symm,h.bel,h.lb⟩
theorem UsW.call (h:UsW w wr Bt Bo Bb L1 L2 n ba cs v1 v2 r1 r2) (hb:Below wr.heap.size wr w'):UsW w w' Bt Bo Bb L1 L2 n ba cs v1 v2 r1 r2 :=
 ⟨h.bt.below hb h.bt.lt,h.bo.below hb h.bo.lt,h.bb.below hb h.bb.lt,h.g1.call hb,h.g2.call hb,h.ne,h.ap,h.bel.trans (hb.mono h.bel.size),h.lb⟩
theorem UsW.put (h:UsW w wr Bt Bo Bb L1 L2 n ba cs v1 v2 r1 r2) (s:Nat) (hs:s < n) {v':Value} (x:Int) (hg:wr.grownBy w' (v1.getD s nilV).ownBlock)
    (ho:w'.ownsRow ba 3 1 v' ((r1 s).length + 1) (encs encI (r1 s) ++ encI x)) (hl:v'.ownBlock = (v1.getD s nilV).ownBlock∨v'.ownBlock = some wr.heap.size) :
    UsW w (w'.setCell ⟨L1,s,none⟩ v') Bt Bo Bb L1 L2 n ba cs (v1.set s v') v2 (fun t => if t = s then r1 s ++ [x] else r1 t) r2:=by
 have lb:=h.lb
 have hlen:v1.length = n:=by have:=h.g1.own.1; omega
 have hr:=h.g1.row s hs
 have hLl:w.heap.size≤L1:=by
  have:=(own_lt h.g1.own L1 rfl).1
  omega
 have kb:∀ {g:Nat} {T:TypeId} {c:Array Value},Blk wr g T c→3≠T→55≠T→Blk (w'.setCell ⟨L1,s,none⟩ v') g T c:=fun {g T c} hb h1 h2 =>
  (blk_keep hb hg (own_blk hr hb h1)).far (p:=⟨L1,s,none⟩) (fun e => own_blk h.g1.own hb h2 (by rw [e]; rfl)) _
 have k2:=h.g2.kept hg (fun e => apart_types hr h.g2.own (by decide) L2 e rfl) (fun t ht => (h.ap s t hs ht).symm.or_none)
 refine ⟨kb h.bt (by decide) (by decide),kb h.bo (by decide) (by decide),kb h.bb (by decide) (by decide),h.g1.put (by decide) s hs x hg ho hl,?_,h.ne,fun a b ha hb => ?_,?_,h.lb⟩
 ·refine k2.set (p:=⟨L1,s,none⟩) h.ne (fun t ht e => ?_) _
  exact apart_types (h.g2.row t ht) h.g1.own (by decide) L1 e rfl
 ·by_cases e1:a = s
  ·subst e1
   rw [getD_set_same _ _ _ _ (by omega)]
   intro g hg1 hg2
   rcases hl with h1 | h1
   ·exact h.ap a b ha hb g (by rw [← h1]; exact hg1) hg2
   ·rw [h1] at hg1
    have:=Option.some.inj hg1
    have:=(own_lt (h.g2.row b hb) g hg2).2
    omega
  ·rw [getD_set_other _ _ _ _ _ (Ne.symm e1)]
   exact h.ap a b ha hb
 ·exact ((h.bel).grown hg h.bel.size (fun k hk => by have:=(own_lt hr k hk).1; omega)).setCell (p:=⟨L1,s,none⟩) hLl _
end
theorem grp_madeU {α:Type} {enc:α→List Value} {k:Nat} {w':World} {base L n:Nat} {eL e:TypeId} {rows:Nat→List α} (h:w'.ownsRow base eL 1 (.slice (some ⟨L,0,none⟩) n n) n (List.replicate n nilV)) (hr:∀ s,rows s = []:=by intro s; rfl):Grp enc k w' base L n eL e (List.replicate n nilV) rows:=by
 have hv:∀ s,(List.replicate n nilV).getD s nilV = nilV:=by
  intro s
  rw [List.getD_eq_getElem?_getD,List.getElem?_replicate]
  split <;> rfl
 refine ⟨h,fun s _ => ?_,fun s t _ _ _ => ?_⟩
 ·rw [hv,hr]; exact World.ownsRow_nil _ _ _ _
 ·rw [hv,hv]; intro g hg; cases hg
theorem slInt_info:(Tryz.prog.info? 55).map (fun i => (i.zero,i.size,i.bytes)) = some (some (.slice none 0 0),1,24):=by kernel_rfl
theorem int_info:(Tryz.prog.info? 3).map (fun i => (i.zero,i.size,i.bytes)) = some (some (.int .i64 0),1,8):=by kernel_rfl
theorem encI_one (z:Int):∀ v∈encI z,v.oneCell' = true:=by
 intro v hv
 simp [encI] at hv
 subst hv; rfl
def UsefulPost (t:Fs) (cs:Array Value) (n:Nat) (w:World) (e:Ending) (w':World):Prop :=
 ∃ Bo Bb L1 L2 ba v1 v2,e = .returned (.func (.func 91) #[] #[.pointer (some ⟨w.heap.size,0,none⟩),.pointer (some ⟨Bo,0,none⟩),.pointer (some ⟨Bb,0,none⟩)])∧UsW w w' w.heap.size Bo Bb L1 L2 n ba cs v1 v2 (onS t.arcs t.arcs.length) (backS t.arcs t.arcs.length)
set_option maxRecDepth 100000 in
set_option maxHeartbeats 8000000 in
theorem useful_any (t:Fs) (A1 A2 A3:Option Addr) (n1 c1 n2 c2 m c3 B n:Nat) (w:World) (HR:Reads w B 8 A3 m (encs encA t.arcs)) (hB:B≤w.heap.size) (hn:n≤1024) (hal:m≤16384) (hok:∀ x∈t.arcs,0≤x.fr∧x.fr < (n:Int)∧0≤x.to∧x.to < (n:Int)) :
    Calls Tryz.prog 59 #[.agg #[.int .i64 (n:Int),.slice A1 n1 c1,.slice A2 n2 c2,.slice A3 m c3]] w (UsefulPost t #[.int .i64 (n:Int),.slice A1 n1 c1,.slice A2 n2 c2,.slice A3 m c3] n w):=by
 have hlm:=reads_len encA_len (by decide) HR
 have Hlm:=Lib.hid hlm
 have HOK:=Lib.hid hok
 have HR':=HR.more hB
 obtain ⟨i0,hi,hy0,hy1,hy2⟩:=info_parts slInt_info
 have hbb:i0.bytes * n≤281474976710656:=by rw [hy2]; omega
 have hmx:n≤maxLen:=by unfold maxLen; omega
 have JB:=Blk.new w 32 #[.int .i64 (n:Int),.slice A1 n1 c1,.slice A2 n2 c2,.slice A3 m c3]
 have LB:=(Below.refl w.heap.size w).alloc (Nat.le_refl _) (.cells #[.int .i64 (n:Int),.slice A1 n1 c1,.slice A2 n2 c2,.slice A3 m c3] 32)
 have k0:=cell_regrown (JB.cell 0)
 have hza:∀ W,(Instr.alloc 22 true (.tuple #[])).run Tryz.prog W = .ok (.pointer (some ⟨W.heap.size,0,none⟩)) (W.alloc (.cells #[.slice none 0 0] 22)):=fun W => by simp [go_sem]
 have HD:∀ W',Below (w.alloc (.cells #[.int .i64 (n:Int),.slice A1 n1 c1,.slice A2 n2 c2,.slice A3 m c3] 32)).drew.heap.size (w.alloc (.cells #[.int .i64 (n:Int),.slice A1 n1 c1,.slice A2 n2 c2,.slice A3 m c3] 32)).drew W'→Below (w.alloc (.cells #[.int .i64 (n:Int),.slice A1 n1 c1,.slice A2 n2 c2,.slice A3 m c3] 32)).heap.size (w.alloc (.cells #[.int .i64 (n:Int),.slice A1 n1 c1,.slice A2 n2 c2,.slice A3 m c3] 32)) W':=fun W' hb => (Below.refl _ _).drew.trans hb
 clear hok hlm HR
 go_enter Tryz.func59,Tryz.ntmps59
 go_wp2
 refine wp_region_fanG_below 9 [0,1,3,4] [2,5,6,7,8] (fun i => if i = 8 then [2,6,7] else []) (by kernel_rfl) (by kernel_rfl) rfl (by kernel_rfl)
  (fun is a W => (∀ i∈is,i∈[2,5,6,7,8])∧∃ f,UsInv (w.alloc (.cells #[.int .i64 (n:Int),.slice A1 n1 c1,.slice A2 n2 c2,.slice A3 m c3] 32)).drew ⟨#[.agg #[.int .i64 (n:Int),.slice A1 n1 c1,.slice A2 n2 c2,.slice A3 m c3],.pointer (some ⟨w.heap.size,0,none⟩),.nilFunc,undef,undef,undef,undef,.pointer (some ⟨w.heap.size,0,none⟩),.int .i64 (n:Int),undef,.pointer (some ⟨w.heap.size,0,none⟩),.int .i64 (n:Int),undef,undef,undef,undef,undef,undef,undef,undef,undef,undef,undef,undef,undef,undef,undef,undef,undef,undef,undef,undef,undef,undef,undef,undef,undef,undef,undef,undef,undef,undef,undef,undef,undef,undef,undef,undef],[]⟩ n is a W f) ?step ?fin ?_
 case step =>
  rintro is a W ⟨hsub,f,h⟩ i hii hdep
  have hsz:∀ x∈[9,12,3,4],x < (48:Nat):=by decide
  have hsub':∀ j∈is.erase i,j∈[2,5,6,7,8]:=fun j hj => hsub j (List.mem_of_mem_erase hj)
  have hcs:=hsub i hii
  simp only [List.mem_cons,List.not_mem_nil,or_false] at hcs
  rcases hcs with rfl | rfl | rfl | rfl | rfl
  ·refine ⟨_,rfl,rfl,op_make 8 22 rfl w.heap.size.succ 55 i0 _ 1 Tryz.underlying22 hi hy0 hy1 n (eval_tmp ((h.same 8 (by decide)).trans rfl)) hbb hmx (by have:=h.bel.size; simpa using this) ?_⟩
   intro W' hown hb
   rw [show (Value.slice none 0 0).cells = #[Value.slice none 0 0] from rfl,Nat.mul_one,toList_madeCells_one] at hown
   have hlt:=(own_lt hown W.heap.size rfl).2
   have e0:w.heap.size.succ = (w.alloc (.cells #[.int .i64 (n:Int),.slice A1 n1 c1,.slice A2 n2 c2,.slice A3 m c3] 32)).drew.heap.size:=by simp
   rw [e0] at hown
   exact ⟨regrown_of_below (HD _ (h.bel.trans (hb.mono h.bel.size))),hsub',_,h.make 2 hii (by decide) 9 (by decide) _ hb hlt (by decide) (fun _ => ⟨rfl,rfl,hown⟩) (fun e => absurd e (by decide)) (fun e => absurd e (by decide)) (fun e => absurd e (by decide)) hsz⟩
  ·refine ⟨_,rfl,rfl,op_make 11 22 rfl w.heap.size.succ 55 i0 _ 1 Tryz.underlying22 hi hy0 hy1 n (eval_tmp ((h.same 11 (by decide)).trans rfl)) hbb hmx (by have:=h.bel.size; simpa using this) ?_⟩
   intro W' hown hb
   rw [show (Value.slice none 0 0).cells = #[Value.slice none 0 0] from rfl,Nat.mul_one,toList_madeCells_one] at hown
   have hlt:=(own_lt hown W.heap.size rfl).2
   have e0:w.heap.size.succ = (w.alloc (.cells #[.int .i64 (n:Int),.slice A1 n1 c1,.slice A2 n2 c2,.slice A3 m c3] 32)).drew.heap.size:=by simp
   rw [e0] at hown
   exact ⟨regrown_of_below (HD _ (h.bel.trans (hb.mono h.bel.size))),hsub',_,h.make 5 hii (by decide) 12 (by decide) _ hb hlt (by decide) (fun e => absurd e (by decide)) (fun _ => ⟨rfl,rfl,hown⟩) (fun e => absurd e (by decide)) (fun e => absurd e (by decide)) hsz⟩
  ·refine ⟨_,rfl,rfl,op_alloc 22 nilV rfl hza ?_⟩
   have hb:=(Below.refl W.heap.size W).alloc (Nat.le_refl _) (.cells #[nilV] 22)
   exact ⟨regrown_of_below (HD _ (h.bel.trans (hb.mono h.bel.size))),hsub',_,h.make 6 hii (by decide) 3 (by decide) _ hb (by simp) (by decide) (fun e => absurd e (by decide)) (fun e => absurd e (by decide)) (fun _ => ⟨rfl,rfl,Blk.new W _ _⟩) (fun e => absurd e (by decide)) hsz⟩
  ·refine ⟨_,rfl,rfl,op_alloc 22 nilV rfl hza ?_⟩
   have hb:=(Below.refl W.heap.size W).alloc (Nat.le_refl _) (.cells #[nilV] 22)
   exact ⟨regrown_of_below (HD _ (h.bel.trans (hb.mono h.bel.size))),hsub',_,h.make 7 hii (by decide) 4 (by decide) _ hb (by simp) (by decide) (fun e => absurd e (by decide)) (fun e => absurd e (by decide)) (fun e => absurd e (by decide)) (fun _ => ⟨rfl,rfl,Blk.new W _ _⟩) hsz⟩
  ·have d2:=hdep 2 (by decide)
   have d6:=hdep 6 (by decide)
   have d7:=hdep 7 (by decide)
   have h6:=h.m6 d6
   rw [if_pos hii] at h6
   refine ⟨_,rfl,rfl,op_store 22 (.tmp 3) (.tmp 9) rfl (f 6) _ nilV (eval_tmp h6.1) (eval_tmp (h.m2 d2).1) (by kernel_rfl) rfl h6.2 ?_⟩
   have hs:=h.store hii d2 d6 d7
   exact ⟨regrown_of_below (HD _ hs.bel),hsub',f,hs⟩
 case fin =>
  rintro a W ⟨_,f,h⟩
  obtain ⟨a9,o1⟩:=h.m2 (by simp)
  obtain ⟨a12,o2⟩:=h.m5 (by simp)
  obtain ⟨a3,b6⟩:=h.m6 (by simp)
  obtain ⟨a4,b7⟩:=h.m7 (by simp)
  rw [if_neg (by simp)] at b6
  have n25:=h.ne 2 (by decide) 5 (by decide) (by decide) (by simp) (by simp)
  have n67:=h.ne 6 (by decide) 7 (by decide) (by decide) (by simp) (by simp)
  have hbl:=h.bel
  have lt7:=h.lt 7 (by decide) (by simp)
  rw [act_eq4 h.defers h.size h.same a9 a12 a3 a4]
  clear h a9 a12 a3 a4
  generalize f 2 = L1 at *
  generalize f 5 = L2 at *
  generalize f 6 = Bo at *
  generalize f 7 = Bb at *
  have hc7:=b7.cell 0
  have hf7:=b7.frozen 0
  simp only [Act.put]
  go_wp2
  refine NoPanic.normal ?_
  have hD:=HD _ hbl
  have hWl:W.heap.size > w.heap.size:=by have:=hbl.size; simp at this; omega
  have HU0:UsW w (W.setCell ⟨Bb,0,none⟩ (.slice (some ⟨L2,0,none⟩) n n)) w.heap.size Bo Bb L1 L2 n (w.heap.size + 1) #[.int .i64 (n:Int),.slice A1 n1 c1,.slice A2 n2 c2,.slice A3 m c3] (List.replicate n nilV) (List.replicate n nilV) (onS t.arcs 0) (backS t.arcs 0):=by
   have hz:(w.alloc (.cells #[.int .i64 (n:Int),.slice A1 n1 c1,.slice A2 n2 c2,.slice A3 m c3] 32)).drew.heap.size = w.heap.size + 1:=by simp
   rw [hz] at o1 o2
   have hBb:=lt7.1
   rw [hz] at hBb
   refine ⟨(JB.below hD JB.lt).far (p:=⟨Bb,0,none⟩) (by show w.heap.size≠Bb; omega) _,b6.far (p:=⟨Bb,0,none⟩) n67 _,b7.set_ 0 _,grp_madeU (own_setCell o1 (own_blk_ne o1 b7 (by decide)) _),grp_madeU (own_setCell o2 (own_blk_ne o2 b7 (by decide)) _),n25,fun s t _ _ g hg => ?_,((LB.trans (hD.mono (by simp))).setCell (p:=⟨Bb,0,none⟩) (by show w.heap.size≤Bb; omega) _),Nat.le_succ _⟩
   have e:(List.replicate n nilV).getD s nilV = nilV:=by
    rw [List.getD_eq_getElem?_getD,List.getElem?_replicate]
    split <;> rfl
   rw [e] at hg
   cases hg
  have q3:=HU0.bt.cell 3
  clear hbl hD o1 o2 b6 b7 n25 n67 hc7 hf7 JB LB HD hi hy0 hy1 hy2 hbb lt7
  generalize W.setCell ⟨Bb,0,none⟩ (.slice (some ⟨L2,0,none⟩) n n) = W1 at *
  clear hWl
  go_wp2
  clear q3
  go_loopw [16] (fun i wr => ∃ (k:Nat) (v1 v2:List Value),k≤m∧i = .int .i64 ((k:Nat):Int)∧UsW w wr w.heap.size Bo Bb L1 L2 n (w.heap.size + 1) #[.int .i64 (n:Int),.slice A1 n1 c1,.slice A2 n2 c2,.slice A3 m c3] v1 v2 (onS t.arcs k) (backS t.arcs k)) (fun i _ => m - (intOf i).toNat)
  case atStart => exact ⟨0,_,_,Nat.zero_le _,rfl,HU0⟩
  case round =>
   clear HU0
   obtain ⟨k,v1,v2,hk,rfl,HU⟩:=hrel
   by_cases hlt:k < m
   ·have hi1:(0:Int)≤(k:Int):=by omega
    have hi2:(k:Int) < (m:Int):=by omega
    obtain ⟨gx,ox,rfl,hgx,a0,a1,a2,a3,a4,a5,a6,a7⟩:=arc_cell (HR'.below HU.bel) k hlt
    have hkl:k < t.arcs.length:=by have:=Hlm.out; omega
    obtain ⟨o1,o2,o3,o4⟩:=HOK.out _ (getD_in t.arcs ar0 k hkl)
    have hs1:=Lib.hid (onS_succ t.arcs k hkl)
    have hs2:=Lib.hid (backS_succ t.arcs k hkl)
    have hlo:∀ s,(onS t.arcs k s).length≤16384:=fun s => Nat.le_trans (onS_len t.arcs k s) (by have:=Hlm.out; omega)
    have hlb:∀ s,(backS t.arcs k s).length≤16384:=fun s => Nat.le_trans (backS_len t.arcs k s) (by have:=Hlm.out; omega)
    generalize t.arcs.getD k ar0 = x at *
    obtain ⟨fr,tt,⟨s1,s2,s3,s4⟩,qo,cp⟩:=x
    simp only at a0 a1 a2 a3 a4 a5 a6 a7 o1 o2 o3 o4
    obtain ⟨s,rfl⟩:∃ s:Nat,fr = (s:Int):=⟨_,(Int.toNat_of_nonneg o1).symm⟩
    obtain ⟨u,rfl⟩:∃ u:Nat,tt = (u:Int):=⟨_,(Int.toNat_of_nonneg o3).symm⟩
    have hsn:s < n:=by omega
    have hun:u < n:=by omega
    have hsn2:(s:Int) < (n:Int):=by omega
    have hun2:(u:Int) < (n:Int):=by omega
    have hl1:=hlo s
    have hl2:=hlb u
    clear hlo hlb hkl
    generalize onS t.arcs k = ron at *
    generalize backS t.arcs k = rba at *
    have LB:=(Below.refl wr.heap.size wr).alloc (Nat.le_refl _) (.cells #[.int .i64 (s:Int),.int .i64 (u:Int),.int .u64 (s1:Int),.int .u64 (s2:Int),.int .u64 (s3:Int),.int .u64 (s4:Int),.string qo,.bool cp] 61)
    have HUa:=HU.call LB
    have HXa:=Blk.new wr 61 #[.int .i64 (s:Int),.int .i64 (u:Int),.int .u64 (s1:Int),.int .u64 (s2:Int),.int .u64 (s3:Int),.int .u64 (s4:Int),.string qo,.bool cp]
    obtain ⟨ia,hia,hya0,hya1,hya2⟩:=info_parts int_info
    clear HU LB
    go_wp2
    clear a0 a1 a2 a3 a4 a5 a6 a7
    generalize wr.heap.size = Gx at *
    generalize (wr.alloc (.cells #[.int .i64 (s:Int),.int .i64 (u:Int),.int .u64 (s1:Int),.int .u64 (s2:Int),.int .u64 (s3:Int),.int .u64 (s4:Int),.string qo,.bool cp] 61)) = wa at *
    have hrow0:=HUa.g1.row s hsn
    obtain ⟨Av0,cv0,hv0,_,_,_⟩:=own_form hrow0
    have hcl0:=own_cellAt HUa.g1.own s hsn nilV
    rw [hv0] at hcl0
    obtain ⟨Sx0,hSdef0⟩:∃ Sx:World→Prop,Sx = fun W => Blk W Gx 61 #[.int .i64 (s:Int),.int .i64 (u:Int),.int .u64 (s1:Int),.int .u64 (s2:Int),.int .u64 (s3:Int),.int .u64 (s4:Int),.string qo,.bool cp]∧Blk W Bo 22 #[.slice (some ⟨L1,0,none⟩) n n]∧W.cell? ⟨L1,s,none⟩ = some (.slice Av0 (ron s).length cv0):=⟨_,rfl⟩
    have hSi0:=fun W x1 x2 x3 => show Sx0 W by rw [hSdef0]; exact ⟨x1,x2,x3⟩
    have hSo0:=fun W (h:Sx0 W) => show Blk W Gx 61 #[.int .i64 (s:Int),.int .i64 (u:Int),.int .u64 (s1:Int),.int .u64 (s2:Int),.int .u64 (s3:Int),.int .u64 (s4:Int),.string qo,.bool cp]∧Blk W Bo 22 #[.slice (some ⟨L1,0,none⟩) n n]∧W.cell? ⟨L1,s,none⟩ = some (.slice Av0 (ron s).length cv0) by rw [hSdef0] at h; exact h
    have y0:=fun p:Held Sx0 => (hSo0 p.w p.2).1.cell 0
    have y1:=fun p:Held Sx0 => (hSo0 p.w p.2).1.cell 1
    have y2:=fun p:Held Sx0 => (hSo0 p.w p.2).2.1.cell 0
    have y3:=fun p:Held Sx0 => (hSo0 p.w p.2).2.2
    have hS00:Sx0 wa.drew:=hSi0 _ HXa HUa.bo hcl0
    clear hSdef0
    have hNe0:Nonempty (Held Sx0):=⟨⟨_,hS00⟩⟩
    go_wp2
    refine wp_region_hold_at Sx0 12 [0,1,2,3,4,5,6,7,8,9] [10,11] (by kernel_rfl) (by kernel_rfl) rfl (by kernel_rfl) hS00 ?_
    simp only [pickOps,List.getElem?_cons_zero,List.getElem?_cons_succ,List.drop_succ_cons,List.drop_zero]
    repeat (go_big_quiet_step (fail))
    refine wpQuiet_nil ?_
    clear y0 y1 y2 y3
    have LA0:Below wa.heap.size wa (wa.drew.alloc (.cells #[.int .i64 (u:Int)] 3)):=(Below.refl _ wa).drew.alloc (Nat.le_refl _) _
    have HUq0:=HUa.call LA0
    have HXq0:=HXa.below LA0 HXa.lt
    have hclq0:=own_cellAt HUq0.g1.own s hsn nilV
    rw [hv0] at hclq0
    refine wpForce_step rfl (fun KK hKK => ?_)
    go_simp
    refine hKK _ _ (HeldIn.of (hSi0 _ HXq0 HUq0.bo hclq0)) ?_
    clear hKK KK
    have hrd0:=reads_allocK wa.drew [.int .i64 (u:Int)] 3 1 1 rfl
    have hrow20:=HUq0.g1.row s hsn
    rw [hv0] at hrow20
    have hone0:=encI_one (u:Int)
    have h630:(ron s).length + 1≤maxLen:=by unfold maxLen; omega
    have hby0:((ron s).length + 1) * 8≤140737488355328:=by omega
    have hbs0:w.heap.size + 1≤(wa.drew.alloc (.cells #[.int .i64 (u:Int)] 3)).heap.size:=by
     have:=own_lt HUq0.g1.own L1 rfl
     omega
    refine wpForce_step rfl (fun KK hKK => ?_)
    refine wp_append_any _ _ _ 55 rfl (w.heap.size + 1) 3 ia _ 1 8 Tryz.underlying55 hia hya0 hya1 hya2 rfl (by decide) _ _ _ rfl hrow20 _ (some ⟨wa.drew.heap.size,0,none⟩) 1 1 [.int .i64 (u:Int)] rfl hrd0 hone0 h630 hby0 hbs0 ?_
    intro v'0 wz0 hown hgrow hloc
    have hgrow':=hgrow
    rw [← hv0] at hgrow'
    have HU0n:=(HUq0.put s hsn (u:Int) hgrow' hown (by rw [hv0]; exact hloc))
    have kk:=HUq0.g1.own.kept hgrow' (apart_types HUq0.g1.own (HUq0.g1.row s hsn) (by decide)).or_none
    have hc5:=own_cellAt kk s hsn nilV
    have hf5:=own_frozenAt kk s
    rw [hv0] at hc5
    have HXz0:=blk_keep HXq0 hgrow' (own_blk (HUq0.g1.row s hsn) HXq0 (by decide))
    have HBz0:=blk_keep HUq0.bo hgrow' (own_blk (HUq0.g1.row s hsn) HUq0.bo (by decide))
    refine hKK _ _ (HeldIn.of (hSi0 _ HXz0 HBz0 hc5)) ?_
    clear hKK KK
    obtain ⟨Aw0,cw0,rfl,_,_,_⟩:=own_form hown
    have HXn0:=HXz0.far (p:=⟨L1,s,none⟩) (fun e => own_blk HUq0.g1.own HXq0 (by decide) (congrArg some e.symm)) (.slice Aw0 ((ron s).length + 1) cw0)
    clear hown hgrow hgrow' hloc hrd0 hrow20 HXq0 HUq0 hSi0 hSo0 hS00 kk hcl0 hclq0 LA0 HXz0 HBz0 hrow0 hbs0
    refine wpForce_nil ?_
    go_wp2
    refine NoPanic.normal ?_
    clear hc5 hf5
    generalize (wz0.setCell ⟨L1,s,none⟩ (.slice Aw0 ((ron s).length + 1) cw0)) = wn0 at *
    have hrow1:=HU0n.g2.row u hun
    obtain ⟨Av1,cv1,hv1,_,_,_⟩:=own_form hrow1
    have hcl1:=own_cellAt HU0n.g2.own u hun nilV
    rw [hv1] at hcl1
    obtain ⟨Sx1,hSdef1⟩:∃ Sx:World→Prop,Sx = fun W => Blk W Gx 61 #[.int .i64 (s:Int),.int .i64 (u:Int),.int .u64 (s1:Int),.int .u64 (s2:Int),.int .u64 (s3:Int),.int .u64 (s4:Int),.string qo,.bool cp]∧Blk W Bb 22 #[.slice (some ⟨L2,0,none⟩) n n]∧W.cell? ⟨L2,u,none⟩ = some (.slice Av1 (rba u).length cv1):=⟨_,rfl⟩
    have hSi1:=fun W x1 x2 x3 => show Sx1 W by rw [hSdef1]; exact ⟨x1,x2,x3⟩
    have hSo1:=fun W (h:Sx1 W) => show Blk W Gx 61 #[.int .i64 (s:Int),.int .i64 (u:Int),.int .u64 (s1:Int),.int .u64 (s2:Int),.int .u64 (s3:Int),.int .u64 (s4:Int),.string qo,.bool cp]∧Blk W Bb 22 #[.slice (some ⟨L2,0,none⟩) n n]∧W.cell? ⟨L2,u,none⟩ = some (.slice Av1 (rba u).length cv1) by rw [hSdef1] at h; exact h
    have y0:=fun p:Held Sx1 => (hSo1 p.w p.2).1.cell 0
    have y1:=fun p:Held Sx1 => (hSo1 p.w p.2).1.cell 1
    have y2:=fun p:Held Sx1 => (hSo1 p.w p.2).2.1.cell 0
    have y3:=fun p:Held Sx1 => (hSo1 p.w p.2).2.2
    have hS01:Sx1 wn0.drew:=hSi1 _ HXn0 HU0n.bb hcl1
    clear hSdef1
    have hNe1:Nonempty (Held Sx1):=⟨⟨_,hS01⟩⟩
    go_wp2
    refine wp_region_hold_at Sx1 12 [0,1,2,3,4,5,6,7,8,9] [10,11] (by kernel_rfl) (by kernel_rfl) rfl (by kernel_rfl) hS01 ?_
    simp only [pickOps,List.getElem?_cons_zero,List.getElem?_cons_succ,List.drop_succ_cons,List.drop_zero]
    repeat (go_big_quiet_step (fail))
    refine wpQuiet_nil ?_
    clear y0 y1 y2 y3
    have LA1:Below wn0.heap.size wn0 (wn0.drew.alloc (.cells #[.int .i64 (s:Int)] 3)):=(Below.refl _ wn0).drew.alloc (Nat.le_refl _) _
    have HUq1:=HU0n.call LA1
    have HXq1:=HXn0.below LA1 HXn0.lt
    have hclq1:=own_cellAt HUq1.g2.own u hun nilV
    rw [hv1] at hclq1
    refine wpForce_step rfl (fun KK hKK => ?_)
    go_simp
    refine hKK _ _ (HeldIn.of (hSi1 _ HXq1 HUq1.bb hclq1)) ?_
    clear hKK KK
    have hrd1:=reads_allocK wn0.drew [.int .i64 (s:Int)] 3 1 1 rfl
    have hrow21:=HUq1.g2.row u hun
    rw [hv1] at hrow21
    have hone1:=encI_one (s:Int)
    have h631:(rba u).length + 1≤maxLen:=by unfold maxLen; omega
    have hby1:((rba u).length + 1) * 8≤140737488355328:=by omega
    have hbs1:w.heap.size + 1≤(wn0.drew.alloc (.cells #[.int .i64 (s:Int)] 3)).heap.size:=by
     have:=own_lt HUq1.g2.own L2 rfl
     omega
    refine wpForce_step rfl (fun KK hKK => ?_)
    refine wp_append_any _ _ _ 55 rfl (w.heap.size + 1) 3 ia _ 1 8 Tryz.underlying55 hia hya0 hya1 hya2 rfl (by decide) _ _ _ rfl hrow21 _ (some ⟨wn0.drew.heap.size,0,none⟩) 1 1 [.int .i64 (s:Int)] rfl hrd1 hone1 h631 hby1 hbs1 ?_
    intro v'1 wz1 hown hgrow hloc
    have hgrow':=hgrow
    rw [← hv1] at hgrow'
    have HU1n:=(HUq1.swap.put u hun (s:Int) hgrow' hown (by rw [hv1]; exact hloc)).swap
    have kk:=HUq1.g2.own.kept hgrow' (apart_types HUq1.g2.own (HUq1.g2.row u hun) (by decide)).or_none
    have hc5:=own_cellAt kk u hun nilV
    have hf5:=own_frozenAt kk u
    rw [hv1] at hc5
    have HXz1:=blk_keep HXq1 hgrow' (own_blk (HUq1.g2.row u hun) HXq1 (by decide))
    have HBz1:=blk_keep HUq1.bb hgrow' (own_blk (HUq1.g2.row u hun) HUq1.bb (by decide))
    refine hKK _ _ (HeldIn.of (hSi1 _ HXz1 HBz1 hc5)) ?_
    clear hKK KK
    obtain ⟨Aw1,cw1,rfl,_,_,_⟩:=own_form hown
    have HXn1:=HXz1.far (p:=⟨L2,u,none⟩) (fun e => own_blk HUq1.g2.own HXq1 (by decide) (congrArg some e.symm)) (.slice Aw1 ((rba u).length + 1) cw1)
    clear hown hgrow hgrow' hloc hrd1 hrow21 HXq1 HUq1 hSi1 hSo1 hS01 kk hcl1 hclq1 LA1 HXz1 HBz1 hrow1 hbs1
    refine wpForce_nil ?_
    go_wp2
    refine NoPanic.normal ?_
    clear hc5 hf5
    generalize (wz1.setCell ⟨L2,u,none⟩ (.slice Aw1 ((rba u).length + 1) cw1)) = wn1 at *
    go_wp2
    go_roundw
    case rel =>
     refine ⟨k + 1,v1.set s (.slice Aw0 ((ron s).length + 1) cw0),v2.set u (.slice Aw1 ((rba u).length + 1) cw1),by omega,by go_num,?_⟩
     have e1:onS t.arcs (k + 1) = fun q => if q = s then ron s ++ [(u:Int)] else ron q:=by
      funext q
      rw [hs1.out q]
      by_cases hq:q = s
      ·subst hq; rw [if_pos rfl,if_pos rfl]
      ·rw [if_neg (show ¬ ((q:Int) = (s:Int)) by omega),if_neg hq]
     have e2:backS t.arcs (k + 1) = fun q => if q = u then rba u ++ [(s:Int)] else rba q:=by
      funext q
      rw [hs2.out q]
      by_cases hq:q = u
      ·subst hq; rw [if_pos rfl,if_pos rfl]
      ·rw [if_neg (show ¬ ((q:Int) = (u:Int)) by omega),if_neg hq]
     rw [e1,e2]
     exact HU1n
    case measure => simp [intOf]; omega
   ·obtain rfl:m = k:=by omega
    have hmk:∀ (fn:Fn) (first cap:Array Value) (w:World),(Instr.makeFunc fn first cap).run Tryz.prog w = .ok (.func fn first cap) w:=fun _ _ _ _ => rfl
    have hfin:UsefulPost t #[.int .i64 (n:Int),.slice A1 n1 c1,.slice A2 n2 c2,.slice A3 m c3] n w (.returned (.func (.func 91) #[] #[.pointer (some ⟨w.heap.size,0,none⟩),.pointer (some ⟨Bo,0,none⟩),.pointer (some ⟨Bb,0,none⟩)])) wr:=⟨Bo,Bb,L1,L2,_,v1,v2,rfl,by rw [Hlm.out]; exact HU⟩
    have Hfin:=Lib.hid hfin
    clear hfin
    go_wp2
    go_ret
    exact Hfin.out
 simp only [pickOps,List.getElem?_cons_zero,List.getElem?_cons_succ]
 repeat (go_big_quiet_step (fail))
 refine wpQuiet_nil ?_
 exact ⟨fun i hi => hi,fun _ => 0,by decide,rfl,rfl,fun _ _ => rfl,Below.refl _ _,fun h => absurd (by decide) h,fun i h1 h2 => absurd (by simp at h1 ⊢; omega) h2,fun i h1 j _ _ h2 => absurd (by simp at h1 ⊢; omega) h2,fun h => absurd (by decide) h,fun h => absurd (by decide) h,fun h => absurd (by decide) h,fun h => absurd (by decide) h⟩
end Go.Proofs.YtcondkihpmmnnaaGreatDoor
namespace Go.Proofs.YtcondkihpmmnnaaGreatDoor
open Go.RowKit Go.Sort Go.Shelf
attribute [local go_sem] Oper.semAt_some
theorem abides_below {β:Type} {B:Nat} {J:β→World→Prop} (hJ:AbidesFrom B J) {s:β} {w w':World} (h:J s w) (hb:Below w.heap.size w w'):J s w' :=
 hJ s w w' none h (grown_of_below hb) (fun r e => by cases e)
def KeepF (B:Nat) (X Y:World):Prop:=X.heap.size≤Y.heap.size∧∀ k cs T fr,B≤k→X.heap[k]? = some (.cells cs T fr)→Y.heap[k]? = X.heap[k]?
theorem KeepF.trans {B:Nat} {X Y Z:World} (h:KeepF B X Y) (k:KeepF B Y Z):KeepF B X Z :=
 ⟨Nat.le_trans h.1 k.1,fun q cs T fr hq hx => by
  have e1:=h.2 q cs T fr hq hx
  exact (k.2 q cs T fr hq (e1.trans hx)).trans e1⟩
theorem Blk.keepF {B:Nat} {X Y:World} {g:Nat} {T:TypeId} {cs:Array Value} (h:Blk X g T cs) (k:KeepF B X Y) (hg:B≤g):Blk Y g T cs:=(k.2 g cs T (0,0) hg h).trans h
def Leads (tips:List Tp) (succ:Nat→List Int) (x:Nat):Prop:=∃ t∈tips,∃ s:Nat,t.st = (s:Int)∧RT succ s x
def Uses (t:Fs) (n:Nat) (ys:List Nat):Prop:=∃ p:Nat→Bool,(∀ s,s < n→(p s = true↔Leads t.starts (onS t.arcs t.arcs.length) s∧Leads t.ends (backS t.arcs t.arcs.length) s))∧ys = (List.range n).filter p
theorem eg_reach:∀ args w,(callFunc 92 args).run Tryz.prog w = .ok (.enter 92 args) w:=enters_of Tryz.func92 (by kernel_rfl) rfl
theorem maker_call2 {Q:Exit→Act→World→Prop} {base:Act} {w:World} {ds:List Tmp} {o:Oper} {d:Tmp} {F:Value→World→Prop} (hd:o.dst = some d) (hg:o.guard = none) (x y:Tmp) (hx:x ∉ ds) (hy:y ∉ ds) (f:FuncId) (ts:Array TypeId) (hop:o.op = Op.call { callee:=.value (.func f),args:=#[.tmp x,.tmp y],argTypes:=ts })
    (he:∀ args W,(callFunc f args).run Tryz.prog W = .ok (.enter f args) W) (hs:∀ v W W',F v W→Below W.heap.size W W'→F v W')
    (h:∀ W,Below w.heap.size w W→Calls Tryz.prog f #[base.eval (.tmp x),base.eval (.tmp y)] W fun e W' => ∃ v,e = .returned v∧Below W.heap.size W W'∧F v W') :
    Maker Tryz.prog Q base w ds o d F:=by
 refine ⟨hd,hg,hs,?_⟩
 intro act W K hag hb hK
 have hl':act.eval (.tmp x) = base.eval (.tmp x):=eval_agrees hag x hx
 have hl2:act.eval (.tmp y) = base.eval (.tmp y):=eval_agrees hag y hy
 have hf:act.eval (.func f) = .func (.func f) #[] #[]:=rfl
 unfold Oper.wp execOp
 simp only [hop,resolve,invoke,Sem.run_bind,List.map_toArray,List.map_cons,List.map_nil,hl',hl2,hf]
 have hdv:(Deferred.ofValue (Value.func (Fn.func f) #[] #[]) #[base.eval (.tmp x),base.eval (.tmp y)]).run Tryz.prog W = .ok { target:=.fn (.func f) #[],args:=#[base.eval (.tmp x),base.eval (.tmp y)] } W:=by rfl
 rw [hdv,Result.andThen_ok]
 simp only [Array.append_empty,he]
 rw [Oper.upon_enter]
 refine (h W hb).mono ?_
 rintro e W' ⟨v,rfl,hb2,hF⟩
 show K (act.put o.dst v) W'
 rw [hd]
 exact hK _ _ hb2 hF
set_option maxRecDepth 100000 in
set_option maxHeartbeats 4000000 in
theorem useful1_in (d:Nat) (hd:1≤d) (l Bt Bo Bb L1 L2 n B0:Nat) (t:Fs) (A1 A2 A3:Option Addr) (n1 c1 n2 c2 n3 c3:Nat) (J Jx:List Nat→World→Prop) (W:World) (hJ:AbidesFrom W.heap.size J) (hB0:B0≤W.heap.size)
    (hY:∀ pre x W1,x < n→J pre W1→pre.length < n→YieldAt Fence.wide (d - 1) Tryz.prog l #[.int .i64 ((x:Nat):Int)] W1 fun e W' =>
     (e = .returned (.bool true)∧J (pre ++ [x]) W'∧KeepF B0 W1 W')∨(e = .returned (.bool false)∧Jx (pre ++ [x]) W'))
    (hbt:Blk W Bt 32 #[.int .i64 (n:Int),.slice A1 n1 c1,.slice A2 n2 c2,.slice A3 n3 c3]) (hbo:Blk W Bo 22 #[.slice (some ⟨L1,0,none⟩) n n]) (hbb:Blk W Bb 22 #[.slice (some ⟨L2,0,none⟩) n n])
    (hg1:GrpP (fun k => k < W.heap.size) encI 1 W L1 n (onS t.arcs t.arcs.length)) (hg2:GrpP (fun k => k < W.heap.size) encI 1 W L2 n (backS t.arcs t.arcs.length))
    (hR1:Reads W W.heap.size 2 A1 n1 (encs encT t.starts)) (hR2:Reads W W.heap.size 2 A2 n2 (encs encT t.ends)) (hn:n≤1024)
    (hs1:n1≤100000∧∀ x∈t.starts,0≤x.st∧x.st < (n:Int)) (hs2:n2≤100000∧∀ x∈t.ends,0≤x.st∧x.st < (n:Int)) (hal:t.arcs.length≤16384) (hok:∀ x∈t.arcs,0≤x.fr∧x.fr < (n:Int)∧0≤x.to∧x.to < (n:Int)) (h0:J [] W) :
    CallsIn Fence.wide d Tryz.prog 91 #[.func (.yield l) #[] #[],.pointer (some ⟨Bt,0,none⟩),.pointer (some ⟨Bo,0,none⟩),.pointer (some ⟨Bb,0,none⟩)] W fun e W' => (∃ v,e = .returned v) ∧
     ((∃ ys,Uses t n ys∧J ys W')∨(∃ pre,True∧Jx pre W')):=by
 have hok1:∀ s,s < n→(onS t.arcs t.arcs.length s).length≤20000∧∀ z∈onS t.arcs t.arcs.length s,0≤z∧z < (n:Int):=fun s hs => ⟨Nat.le_trans (onS_len _ _ _) (by omega),fun z hz => by
  unfold onS at hz
  obtain ⟨x,hx,rfl⟩:=List.mem_map.1 hz
  have:=hok x (List.mem_of_mem_take (List.mem_filter.1 hx).1)
  exact ⟨this.2.2.1,this.2.2.2⟩⟩
 have hok2:∀ s,s < n→(backS t.arcs t.arcs.length s).length≤20000∧∀ z∈backS t.arcs t.arcs.length s,0≤z∧z < (n:Int):=fun s hs => ⟨Nat.le_trans (backS_len _ _ _) (by omega),fun z hz => by
  unfold backS at hz
  obtain ⟨x,hx,rfl⟩:=List.mem_map.1 hz
  have:=hok x (List.mem_of_mem_take (List.mem_filter.1 hx).1)
  exact ⟨this.1,this.2.1⟩⟩
 have k1:=cell_regrown (hbt.cell 1)
 have k2:=cell_regrown (hbt.cell 2)
 have k3:=cell_regrown (hbo.cell 0)
 have k4:=cell_regrown (hbb.cell 0)
 refine callsIn_of_wp Tryz.func91 rfl trivial ?_ rfl
 simp only [Tryz.ntmps91,List.size_toArray,List.length_cons,List.length_nil,Nat.reduceAdd,Nat.reduceSub,Array.replicate_succ,Array.replicate_zero,List.push_toArray,List.append_toArray,List.nil_append,List.cons_append]
 gi_wp2
 refine wpIn_wide.2 ?_
 refine wp_region_hold_below 8 [0,1,2,4,5,6] [3,7] (by kernel_rfl) (by kernel_rfl) rfl (by kernel_rfl) ?_
 simp only [pickOps,List.getElem?_cons_zero,List.getElem?_cons_succ,List.drop_succ_cons,List.drop_zero]
 repeat (go_big_quiet_step (fail))
 refine wpQuiet_nil ?_
 clear k1 k2 k3 k4
 have HR1:=reach_any A1 n1 c1 W.heap.size L1 n t.starts _ W.drew hR1 (Nat.le_refl _) hg1 hn hok1 hs1
 have HR2:=fun W1 (hb:Below W.heap.size W W1) => reach_any A2 n2 c2 W1.heap.size L2 n t.ends _ W1 ((hR2.below hb).more hb.size) (Nat.le_refl _) ⟨Nat.lt_of_lt_of_le hg2.1 hb.size,fun s hs => by
  obtain ⟨A0,c0,x1,x2,x3,x4⟩:=(hg2.kept (w':=W1) fun k hk => hb.block k hk).2 s hs
  exact ⟨A0,c0,x1,x2,x3,x4.mono fun k hk => Nat.lt_of_lt_of_le hk hb.size⟩⟩ hn hok2 hs2
 clear hg1 hg2 hR1 hR2 hok1 hok2 hbt hbo hbb
 refine wpForce_step rfl (fun KK hKK => ?_)
 go_simp
 refine HR1.mono ?_
 rintro e W1 ⟨g1,b1,rfl,z1,hB1,hl1,hb1,hbl1⟩
 have hbl1':Below W.heap.size W W1:=(Below.refl _ W).drew.trans hbl1
 have HR2':=HR2 W1 hbl1'
 have Hb1:=Lib.hid hb1
 have Hl1:=Lib.hid hl1
 clear HR1 HR2 hb1 hl1
 refine hKK _ _ (regrown_of_below hbl1') ?_
 clear hKK KK
 refine wpForce_step rfl (fun KK hKK => ?_)
 go_simp
 refine HR2'.mono ?_
 rintro e W2 ⟨g2,b2,rfl,z2,hB2,hl2,hb2,hbl2⟩
 have hB1':=hB1.below hbl2 hB1.lt
 have hbW:=hbl1'.trans (hbl2.mono hbl1'.size)
 have Hb2:=Lib.hid hb2
 have Hl2:=Lib.hid hl2
 have z1':W.heap.size≤g1:=z1
 have z2':W.heap.size≤g2:=Nat.le_trans hbl1'.size z2
 clear HR2' hb2 hl2 z1 z2
 refine hKK _ _ (regrown_of_below hbW) ?_
 clear hKK KK
 refine wpForce_nil ?_
 go_wp2
 refine NoPanic.normal ?_
 have hJ2:=Lib.hid (abides_below hJ h0 hbW)
 obtain ⟨p,hp⟩:∃ p:Nat→Bool,p = fun s => b1.getD s false && b2.getD s false:=⟨_,rfl⟩
 have Hp:=Lib.hid hp
 have HJ:=Lib.hid hJ
 clear hp hJ h0 hB1 hbl1 hbl2 hbl1'
 gi_wp2
 gi_loopw [18] (fun i wr => ∃ (k:Nat),k≤n∧i = .int .i64 ((k:Nat):Int)∧J ((List.range k).filter p) wr∧Blk wr g1 4 (b1.map Value.bool).toArray∧Blk wr g2 4 (b2.map Value.bool).toArray) (fun i _ => n - (intOf i).toNat)
 case atStart => exact ⟨0,Nat.zero_le _,rfl,hJ2.out,hB1',hB2⟩
 case round =>
  clear hB1' hB2
  obtain ⟨k,hk,rfl,hJk,hX1,hX2⟩:=hrel
  have HJk:=Lib.hid hJk
  clear hJk
  by_cases hlt:k < n
  ·have hi1:(0:Int)≤(k:Int):=by omega
   have hi2:(k:Int) < (n:Int):=by omega
   have c1:wr.cell? ⟨g1,k,none⟩ = some (.bool (b1.getD k false)):=by rw [hX1.cell]; simp [Hl1.out,hlt]
   have c2:wr.cell? ⟨g2,k,none⟩ = some (.bool (b2.getD k false)):=by rw [hX2.cell]; simp [Hl2.out,hlt]
   have hpk:p k = (b1.getD k false && b2.getD k false):=by rw [Hp.out]
   have hfl:(List.range (k + 1)).filter p = (List.range k).filter p ++ if p k = true then [k] else []:=by
    rw [List.range_succ,List.filter_append]
    by_cases h:p k = true
    ·rw [if_pos h,List.filter_cons_of_pos h]; rfl
    ·rw [if_neg h,List.filter_cons_of_neg h]; rfl
   rw [hpk] at hfl
   have Hfl:=Lib.hid hfl
   have hpl:((List.range k).filter p).length < n:=Nat.lt_of_le_of_lt (List.length_filter_le _ _) (by rw [List.length_range]; exact hlt)
   have hHY:=Lib.hid (hY _ k wr hlt HJk.out hpl)
   clear hpk hfl hpl
   generalize b1.getD k false = x1 at *
   generalize b2.getD k false = x2 at *
   rcases x1 with _ | _
   ·gi_wp2
    refine ⟨(fun _ h => by cases h),?_⟩
    gi_wp2
    go_roundw
    case rel => exact ⟨k + 1,by omega,by go_num,by rw [Hfl.out]; simp only [Bool.false_and,Bool.false_eq_true,if_false,List.append_nil]; exact HJk.out,hX1,hX2⟩
    case measure => simp [intOf]; omega
   ·rcases x2 with _ | _
    ·gi_wp2
     refine ⟨(fun _ h => by cases h),?_⟩
     gi_wp2
     go_roundw
     case rel => exact ⟨k + 1,by omega,by go_num,by rw [Hfl.out]; simp only [Bool.and_false,Bool.false_eq_true,if_false,List.append_nil]; exact HJk.out,hX1,hX2⟩
     case measure => simp [intOf]; omega
    ·obtain ⟨fn,tmps,assign,body,hy,hR⟩:=hHY.out
     clear hHY
     gi_wp2
     refine hR.mono ?_
     rintro e W3 (⟨rfl,hJ3,hk3⟩ | ⟨rfl,hJx3⟩)
     ·have hX1':=hX1.keepF hk3 (by omega)
      have hX2':=hX2.keepF hk3 (by omega)
      have HJ3:=Lib.hid hJ3
      clear hJ3 hk3
      gi_wp2
      go_roundw
      case rel => exact ⟨k + 1,by omega,by go_num,by rw [Hfl.out]; exact HJ3.out,hX1',hX2'⟩
      case measure => simp [intOf]; omega
     ·have HJ3:=Lib.hid hJx3
      clear hJx3
      gi_wp2
      refine bodyPost_ret (results_none rfl _ _ _) rfl ?_
      exact ⟨⟨_,rfl⟩,.inr ⟨_,trivial,HJ3.out⟩⟩
  ·obtain rfl:n = k:=by omega
   gi_wp2
   go_end0
   refine ⟨⟨_,rfl⟩,.inl ⟨_,⟨p,fun s hs => ?_,rfl⟩,HJk.out⟩⟩
   rw [Hp.out,Bool.and_eq_true,Hb1.out s,Hb2.out s]
   exact Iff.rfl
end Go.Proofs.YtcondkihpmmnnaaGreatDoor
namespace Go.Proofs.YtcondkihpmmnnaaGreatDoor
open Go.RowKit Go.Sort
section
variable {w w' w1:World} {B0 P0 G MB:Nat} {vA vE:Value} {most:Int} {fr:ByteArray} {vR vN vO vEn vT:Value} {tv nv ov:List Value} {S:Mk} {M M':Nat→Prop}
theorem MkV.putN (h:MkV w B0 P0 G MB vA vE most fr vR vN vO vEn vT tv nv ov S M) {w2:World} (hb2:Below w.heap.size w w2) {w3:World} {v':Value} {v:Value} {l:List Int} (hv:SlR M w 1 v l.length (l.map (Value.int .i64))) (hg3:w2.grownBy w3 vN.ownBlock) (ho:w3.ownsRow P0 55 1 v' (S.next.length + 1) (nv ++ [v])) (hnew:v'.ownBlock = vN.ownBlock∨v'.ownBlock = some w2.heap.size) :
    MkV (w3.setCell ⟨G,6,none⟩ v') B0 P0 G MB vA vE most fr vR v' vO vEn vT tv (nv ++ [v]) ov { S with next:=S.next ++ [l] } (fun g => M g∨v'.ownBlock = some g):=by
 have box2:=h.box.below hb2 h.box.lt
 have z2:=hb2.size
 have z3:=hg3.size
 have oR2:=own_below h.oR hb2
 have oN2:=own_below h.oN hb2
 have oO2:=own_below h.oO hb2
 have oE2:=own_below h.oE hb2
 have oT2:=own_below h.oT hb2
 have box3:=blk_keep box2 hg3 (own_blk oN2 box2 (by decide))
 have oR3:=oR2.kept hg3 (apart_types oR2 oN2 (by decide)).or_none
 have oO3:=oO2.kept hg3 (apart_types oO2 oN2 (by decide)).or_none
 have oE3:=oE2.kept hg3 (apart_types oE2 oN2 (by decide)).or_none
 have oT3:=oT2.kept hg3 (apart_types oT2 oN2 (by decide)).or_none
 have n3:=num_grown (h.num.below hb2 (Nat.le_refl _)) oN2 hg3
 have hne:G≠MB:=num_block h.num h.box
 have hk:∀ g,g < w.heap.size→¬ M g→(w3.setCell ⟨G,6,none⟩ v').heap[g]? = w.heap[g]?:=fun g hlt hn => by
  rw [Below.heap_setCell _ _ _ _ (show g≠G from fun e => hn (e ▸ h.mG)),hg3.block g (by omega) (fun e => hn (h.mN g e.symm)),hb2.block g hlt]
 have hz:w.heap.size≤(w3.setCell ⟨G,6,none⟩ v').heap.size:=by simp; omega
 have hM:∀ g,g < w.heap.size→(M g∨v'.ownBlock = some g)→M g:=fun g hlt e => by
  rcases e with e | e
  ·exact e
  ·rcases hnew with f | f
   ·exact h.mN g (f ▸ e)
   ·rw [f] at e; have:=Option.some.inj e; omega
 have hs:∀ {k n:Nat} {u:Value} {xs:List Value},SlR M w k u n xs→SlR (fun g => M g∨v'.ownBlock = some g) (w3.setCell ⟨G,6,none⟩ v') k u n xs:=fun hu => (hu.set hM).keep hz fun g hlt hn => hk g hlt (fun e => hn (.inl e))
 exact {
  box:=box3.set_ 6 v'
  num:=n3.setCell (fun e => hne e) v'
  oR:=own_setCell oR3 (own_blk oR3 box3 (by decide)) _
  oN:=by rw [List.length_append]; exact own_setCell ho (own_blk ho box3 (by decide)) _
  oO:=own_setCell oO3 (own_blk oO3 box3 (by decide)) _
  oE:=own_setCell oE3 (own_blk oE3 box3 (by decide)) _
  oT:=own_setCell oT3 (own_blk oT3 box3 (by decide)) _
  tips:=fun i hi => hs (h.tips i hi)
  nexts:=slr_snoc (d:=[]) (len:=List.length) (enc:=fun r:List Int => r.map (Value.int .i64)) l v (by have:=h.oN.1; omega) (fun i hi => hs (h.nexts i hi)) (hs hv)
  outss:=fun i hi => hs (h.outss i hi)
  le:=h.le
  sz:=Nat.le_trans h.sz hz
  gG:=h.gG
  gM:=h.gM
  low:=fun g hg => .inl (h.low g hg)
  mG:=.inl h.mG
  mM:=.inl h.mM
  mR:=fun g e => .inl (h.mR g e)
  mN:=fun g e => .inr e
  mO:=fun g e => .inl (h.mO g e)
  mE:=fun g e => .inl (h.mE g e)
  mT:=fun g e => .inl (h.mT g e) }
theorem MkV.putO (h:MkV w B0 P0 G MB vA vE most fr vR vN vO vEn vT tv nv ov S M) {w2:World} (hb2:Below w.heap.size w w2) {w3:World} {v':Value} {v:Value} {l:List ByteArray} (hv:SlR M w 1 v l.length (l.map Value.string)) (hg3:w2.grownBy w3 vO.ownBlock) (ho:w3.ownsRow P0 25 1 v' (S.outs.length + 1) (ov ++ [v])) (hnew:v'.ownBlock = vO.ownBlock∨v'.ownBlock = some w2.heap.size) :
    MkV (w3.setCell ⟨G,7,none⟩ v') B0 P0 G MB vA vE most fr vR vN v' vEn vT tv nv (ov ++ [v]) { S with outs:=S.outs ++ [l] } (fun g => M g∨v'.ownBlock = some g):=by
 have box2:=h.box.below hb2 h.box.lt
 have z2:=hb2.size
 have z3:=hg3.size
 have oR2:=own_below h.oR hb2
 have oN2:=own_below h.oN hb2
 have oO2:=own_below h.oO hb2
 have oE2:=own_below h.oE hb2
 have oT2:=own_below h.oT hb2
 have box3:=blk_keep box2 hg3 (own_blk oO2 box2 (by decide))
 have oR3:=oR2.kept hg3 (apart_types oR2 oO2 (by decide)).or_none
 have oN3:=oN2.kept hg3 (apart_types oN2 oO2 (by decide)).or_none
 have oE3:=oE2.kept hg3 (apart_types oE2 oO2 (by decide)).or_none
 have oT3:=oT2.kept hg3 (apart_types oT2 oO2 (by decide)).or_none
 have n3:=num_grown (h.num.below hb2 (Nat.le_refl _)) oO2 hg3
 have hne:G≠MB:=num_block h.num h.box
 have hk:∀ g,g < w.heap.size→¬ M g→(w3.setCell ⟨G,7,none⟩ v').heap[g]? = w.heap[g]?:=fun g hlt hn => by
  rw [Below.heap_setCell _ _ _ _ (show g≠G from fun e => hn (e ▸ h.mG)),hg3.block g (by omega) (fun e => hn (h.mO g e.symm)),hb2.block g hlt]
 have hz:w.heap.size≤(w3.setCell ⟨G,7,none⟩ v').heap.size:=by simp; omega
 have hM:∀ g,g < w.heap.size→(M g∨v'.ownBlock = some g)→M g:=fun g hlt e => by
  rcases e with e | e
  ·exact e
  ·rcases hnew with f | f
   ·exact h.mO g (f ▸ e)
   ·rw [f] at e; have:=Option.some.inj e; omega
 have hs:∀ {k n:Nat} {u:Value} {xs:List Value},SlR M w k u n xs→SlR (fun g => M g∨v'.ownBlock = some g) (w3.setCell ⟨G,7,none⟩ v') k u n xs:=fun hu => (hu.set hM).keep hz fun g hlt hn => hk g hlt (fun e => hn (.inl e))
 exact {
  box:=box3.set_ 7 v'
  num:=n3.setCell (fun e => hne e) v'
  oR:=own_setCell oR3 (own_blk oR3 box3 (by decide)) _
  oN:=own_setCell oN3 (own_blk oN3 box3 (by decide)) _
  oO:=by rw [List.length_append]; exact own_setCell ho (own_blk ho box3 (by decide)) _
  oE:=own_setCell oE3 (own_blk oE3 box3 (by decide)) _
  oT:=own_setCell oT3 (own_blk oT3 box3 (by decide)) _
  tips:=fun i hi => hs (h.tips i hi)
  nexts:=fun i hi => hs (h.nexts i hi)
  outss:=slr_snoc (d:=[]) (len:=List.length) (enc:=fun r:List ByteArray => r.map Value.string) l v (by have:=h.oO.1; omega) (fun i hi => hs (h.outss i hi)) (hs hv)
  le:=h.le
  sz:=Nat.le_trans h.sz hz
  gG:=h.gG
  gM:=h.gM
  low:=fun g hg => .inl (h.low g hg)
  mG:=.inl h.mG
  mM:=.inl h.mM
  mR:=fun g e => .inl (h.mR g e)
  mN:=fun g e => .inl (h.mN g e)
  mO:=fun g e => .inr e
  mE:=fun g e => .inl (h.mE g e)
  mT:=fun g e => .inl (h.mT g e) }
theorem MkV.putE (h:MkV w B0 P0 G MB vA vE most fr vR vN vO vEn vT tv nv ov S M) {w2:World} (hb2:Below w.heap.size w w2) {w3:World} {v':Value} {x:Bool}  (hg3:w2.grownBy w3 vEn.ownBlock) (ho:w3.ownsRow P0 4 1 v' (S.ends.length + 1) (S.ends.map Value.bool ++ [.bool x])) (hnew:v'.ownBlock = vEn.ownBlock∨v'.ownBlock = some w2.heap.size) :
    MkV (w3.setCell ⟨G,8,none⟩ v') B0 P0 G MB vA vE most fr vR vN vO v' vT tv nv ov { S with ends:=S.ends ++ [x] } (fun g => M g∨v'.ownBlock = some g):=by
 have box2:=h.box.below hb2 h.box.lt
 have z2:=hb2.size
 have z3:=hg3.size
 have oR2:=own_below h.oR hb2
 have oN2:=own_below h.oN hb2
 have oO2:=own_below h.oO hb2
 have oE2:=own_below h.oE hb2
 have oT2:=own_below h.oT hb2
 have box3:=blk_keep box2 hg3 (own_blk oE2 box2 (by decide))
 have oR3:=oR2.kept hg3 (apart_types oR2 oE2 (by decide)).or_none
 have oN3:=oN2.kept hg3 (apart_types oN2 oE2 (by decide)).or_none
 have oO3:=oO2.kept hg3 (apart_types oO2 oE2 (by decide)).or_none
 have oT3:=oT2.kept hg3 (apart_types oT2 oE2 (by decide)).or_none
 have n3:=num_grown (h.num.below hb2 (Nat.le_refl _)) oE2 hg3
 have hne:G≠MB:=num_block h.num h.box
 have hk:∀ g,g < w.heap.size→¬ M g→(w3.setCell ⟨G,8,none⟩ v').heap[g]? = w.heap[g]?:=fun g hlt hn => by
  rw [Below.heap_setCell _ _ _ _ (show g≠G from fun e => hn (e ▸ h.mG)),hg3.block g (by omega) (fun e => hn (h.mE g e.symm)),hb2.block g hlt]
 have hz:w.heap.size≤(w3.setCell ⟨G,8,none⟩ v').heap.size:=by simp; omega
 have hM:∀ g,g < w.heap.size→(M g∨v'.ownBlock = some g)→M g:=fun g hlt e => by
  rcases e with e | e
  ·exact e
  ·rcases hnew with f | f
   ·exact h.mE g (f ▸ e)
   ·rw [f] at e; have:=Option.some.inj e; omega
 have hs:∀ {k n:Nat} {u:Value} {xs:List Value},SlR M w k u n xs→SlR (fun g => M g∨v'.ownBlock = some g) (w3.setCell ⟨G,8,none⟩ v') k u n xs:=fun hu => (hu.set hM).keep hz fun g hlt hn => hk g hlt (fun e => hn (.inl e))
 exact {
  box:=box3.set_ 8 v'
  num:=n3.setCell (fun e => hne e) v'
  oR:=own_setCell oR3 (own_blk oR3 box3 (by decide)) _
  oN:=own_setCell oN3 (own_blk oN3 box3 (by decide)) _
  oO:=own_setCell oO3 (own_blk oO3 box3 (by decide)) _
  oE:=by rw [List.length_append,List.map_append]; exact own_setCell ho (own_blk ho box3 (by decide)) _
  oT:=own_setCell oT3 (own_blk oT3 box3 (by decide)) _
  tips:=fun i hi => hs (h.tips i hi)
  nexts:=fun i hi => hs (h.nexts i hi)
  outss:=fun i hi => hs (h.outss i hi)
  le:=h.le
  sz:=Nat.le_trans h.sz hz
  gG:=h.gG
  gM:=h.gM
  low:=fun g hg => .inl (h.low g hg)
  mG:=.inl h.mG
  mM:=.inl h.mM
  mR:=fun g e => .inl (h.mR g e)
  mN:=fun g e => .inl (h.mN g e)
  mO:=fun g e => .inl (h.mO g e)
  mE:=fun g e => .inr e
  mT:=fun g e => .inl (h.mT g e) }
theorem MkV.putT (h:MkV w B0 P0 G MB vA vE most fr vR vN vO vEn vT tv nv ov S M) {w2:World} (hb2:Below w.heap.size w w2) {w3:World} {v':Value} {x:ByteArray}  (hg3:w2.grownBy w3 vT.ownBlock) (ho:w3.ownsRow P0 9 1 v' (S.tails.length + 1) (S.tails.map Value.string ++ [.string x])) (hnew:v'.ownBlock = vT.ownBlock∨v'.ownBlock = some w2.heap.size) :
    MkV (w3.setCell ⟨G,9,none⟩ v') B0 P0 G MB vA vE most fr vR vN vO vEn v' tv nv ov { S with tails:=S.tails ++ [x] } (fun g => M g∨v'.ownBlock = some g):=by
 have box2:=h.box.below hb2 h.box.lt
 have z2:=hb2.size
 have z3:=hg3.size
 have oR2:=own_below h.oR hb2
 have oN2:=own_below h.oN hb2
 have oO2:=own_below h.oO hb2
 have oE2:=own_below h.oE hb2
 have oT2:=own_below h.oT hb2
 have box3:=blk_keep box2 hg3 (own_blk oT2 box2 (by decide))
 have oR3:=oR2.kept hg3 (apart_types oR2 oT2 (by decide)).or_none
 have oN3:=oN2.kept hg3 (apart_types oN2 oT2 (by decide)).or_none
 have oO3:=oO2.kept hg3 (apart_types oO2 oT2 (by decide)).or_none
 have oE3:=oE2.kept hg3 (apart_types oE2 oT2 (by decide)).or_none
 have n3:=num_grown (h.num.below hb2 (Nat.le_refl _)) oT2 hg3
 have hne:G≠MB:=num_block h.num h.box
 have hk:∀ g,g < w.heap.size→¬ M g→(w3.setCell ⟨G,9,none⟩ v').heap[g]? = w.heap[g]?:=fun g hlt hn => by
  rw [Below.heap_setCell _ _ _ _ (show g≠G from fun e => hn (e ▸ h.mG)),hg3.block g (by omega) (fun e => hn (h.mT g e.symm)),hb2.block g hlt]
 have hz:w.heap.size≤(w3.setCell ⟨G,9,none⟩ v').heap.size:=by simp; omega
 have hM:∀ g,g < w.heap.size→(M g∨v'.ownBlock = some g)→M g:=fun g hlt e => by
  rcases e with e | e
  ·exact e
  ·rcases hnew with f | f
   ·exact h.mT g (f ▸ e)
   ·rw [f] at e; have:=Option.some.inj e; omega
 have hs:∀ {k n:Nat} {u:Value} {xs:List Value},SlR M w k u n xs→SlR (fun g => M g∨v'.ownBlock = some g) (w3.setCell ⟨G,9,none⟩ v') k u n xs:=fun hu => (hu.set hM).keep hz fun g hlt hn => hk g hlt (fun e => hn (.inl e))
 exact {
  box:=box3.set_ 9 v'
  num:=n3.setCell (fun e => hne e) v'
  oR:=own_setCell oR3 (own_blk oR3 box3 (by decide)) _
  oN:=own_setCell oN3 (own_blk oN3 box3 (by decide)) _
  oO:=own_setCell oO3 (own_blk oO3 box3 (by decide)) _
  oE:=own_setCell oE3 (own_blk oE3 box3 (by decide)) _
  oT:=by rw [List.length_append,List.map_append]; exact own_setCell ho (own_blk ho box3 (by decide)) _
  tips:=fun i hi => hs (h.tips i hi)
  nexts:=fun i hi => hs (h.nexts i hi)
  outss:=fun i hi => hs (h.outss i hi)
  le:=h.le
  sz:=Nat.le_trans h.sz hz
  gG:=h.gG
  gM:=h.gM
  low:=fun g hg => .inl (h.low g hg)
  mG:=.inl h.mG
  mM:=.inl h.mM
  mR:=fun g e => .inl (h.mR g e)
  mN:=fun g e => .inl (h.mN g e)
  mO:=fun g e => .inl (h.mO g e)
  mE:=fun g e => .inl (h.mE g e)
  mT:=fun g e => .inr e }
end
end Go.Proofs.YtcondkihpmmnnaaGreatDoor
namespace Go.Proofs.YtcondkihpmmnnaaGreatDoor
open Go.RowKit Go.Sort Go.Shelf
theorem slice_info_int:(Tryz.prog.info? 3).map (fun i => (i.zero,i.size,i.bytes)) = some (some (.int .i64 0),1,8):=by kernel_rfl
def TrimPost (t:Fs) (w:World) (e:Ending) (w':World):Prop :=
 ∃ u r,GF u r w e w'∧(r = 0→fckB t = true∧fckB u = true∧∃ f,Trims t u f)∧(r = 0∨r = 1)∧(fckB t = true→r = 0)
def numV (n:Nat) (l:List Nat):Array Value:=((List.range n).map fun s => Value.int .i64 (numF l s)).toArray
structure TrW (w W:World) (gN BN G6 n:Nat) (cst:Array Value) (pre:List Nat):Prop where
 bt:Blk W w.heap.size 32 cst
 br:Blk W (w.heap.size + 1) 32 #[.int .i64 0,.slice none 0 0,.slice none 0 0,.slice none 0 0]
 bN:Blk W BN 55 #[.slice (some ⟨gN,0,none⟩) n n]
 nN:Blk W gN 3 (numV n pre)
 b6:Blk W G6 32 #[.int .i64 (pre.length:Int),.slice none 0 0,.slice none 0 0,.slice none 0 0]
 bel:Below w.heap.size w W
 l6:w.heap.size + 1 < G6
 lN:w.heap.size≤gN
section
variable {w W W':World} {gN BN G6 n:Nat} {cst:Array Value} {pre:List Nat}
theorem TrW.call (h:TrW w W gN BN G6 n cst pre) (hb:Below W.heap.size W W'):TrW w W' gN BN G6 n cst pre :=
 ⟨h.bt.below hb h.bt.lt,h.br.below hb h.br.lt,h.bN.below hb h.bN.lt,h.nN.below hb h.nN.lt,h.b6.below hb h.b6.lt,h.bel.trans (hb.mono h.bel.size),h.l6,h.lN⟩
theorem TrW.own:OwnFrom w.heap.size (fun (p:List (Fin n)) W => TrW w W gN BN G6 n cst (p.map Fin.val)):=fun p A B row h hg hr => by
 have hne:∀ {g:Nat} {T:TypeId} {cs:Array Value},Blk A g T cs→some g≠row:=fun {g T cs} hb e => by
  obtain ⟨_,o,ho,hc⟩:=hr g e.symm
  unfold Blk at hb
  rw [hb] at ho
  cases ho
  cases hc
 exact ⟨h.bt.grown hg (hne h.bt),h.br.grown hg (hne h.br),h.bN.grown hg (hne h.bN),h.nN.grown hg (hne h.nN),h.b6.grown hg (hne h.b6),h.bel.grown hg h.bel.size (fun k hk => (hr k hk).1),h.l6,h.lN⟩
end
theorem numV_set (n:Nat) (l:List Nat) (x:Nat):(numV n l).setIfInBounds x (.int .i64 (l.length:Int)) = numV n (l ++ [x]):=by
 unfold numV
 rw [List.setIfInBounds_toArray]
 congr 1
 apply List.ext_getElem?
 intro k
 rw [List.getElem?_set,List.getElem?_map,List.getElem?_map]
 by_cases hk:k < n
 ·rw [List.getElem?_range hk]
  by_cases hx:x = k
  ·subst hx
   simp [hk,numF_snoc]
  ·simp [hx,numF_snoc,Ne.symm hx]
 ·have e:(List.range n)[k]? = none:=List.getElem?_eq_none (by simpa using hk)
  rw [e]
  by_cases hx:x = k
  ·subst hx; simp [hk]
  ·simp [hx]
theorem numV_cell {W:World} {g n:Nat} {l:List Nat} (h:Blk W g 3 (numV n l)) (s:Nat) (hs:s < n):W.cell? ⟨g,s,none⟩ = some (.int .i64 (numF l s)):=by
 rw [h.cell]
 unfold numV
 simp [hs]
def zerV (n k:Nat):Array Value:=((List.range n).map fun s => Value.int .i64 (if s < k then -1 else 0)).toArray
theorem zerV_set (n k:Nat):(zerV n k).setIfInBounds k (.int .i64 (-1)) = zerV n (k + 1):=by
 unfold zerV
 rw [List.setIfInBounds_toArray]
 congr 1
 apply List.ext_getElem?
 intro j
 rw [List.getElem?_set,List.getElem?_map,List.getElem?_map]
 by_cases hj:j < n
 ·rw [List.getElem?_range hj]
  by_cases hx:k = j
  ·subst hx
   simp [hj]
  ·have:(j < k + 1)↔(j < k):=by omega
   simp [hx,this]
 ·have e:(List.range n)[j]? = none:=List.getElem?_eq_none (by simpa using hj)
  rw [e]
  by_cases hx:k = j
  ·subst hx; simp [hj]
  ·simp [hx]
theorem zerV_zero (n:Nat):zerV n 0 = (List.replicate n (Value.int .i64 0)).toArray:=by
 unfold zerV
 congr 1
 apply List.ext_getElem?
 intro j
 rw [List.getElem?_map,List.getElem?_replicate]
 by_cases hj:j < n
 ·rw [List.getElem?_range hj]; simp [hj]
 ·rw [List.getElem?_eq_none (by simpa using hj)]; simp [hj]
theorem zerV_all (n:Nat):zerV n n = numV n []:=by
 unfold zerV numV
 congr 1
 apply List.map_congr_left
 intro s hs
 rw [if_pos (List.mem_range.1 hs),numF_nil]
theorem ownFrom_le {β:Type} {B B':Nat} {I:β→World→Prop} (h:OwnFrom B I) (hB:B≤B'):OwnFrom B' I:=fun s W W' row hs hg hr => h s W W' row hs hg (fun r e => ⟨Nat.le_trans hB (hr r e).1,(hr r e).2⟩)
theorem useful_stops (d:Nat) (hd:1≤d) (t:Fs) (w w5:World) (Bt Bo Bb L1 L2 n ba:Nat) (A1 A2 A3:Option Addr) (n1 c1 n2 c2 n3 c3:Nat) (v1 v2:List Value)
    (h:UsW w w5 Bt Bo Bb L1 L2 n ba #[.int .i64 (n:Int),.slice A1 n1 c1,.slice A2 n2 c2,.slice A3 n3 c3] v1 v2 (onS t.arcs t.arcs.length) (backS t.arcs t.arcs.length))
    (hR1:Reads w5 w5.heap.size 2 A1 n1 (encs encT t.starts)) (hR2:Reads w5 w5.heap.size 2 A2 n2 (encs encT t.ends)) (hn:n≤1024)
    (hs1:n1≤100000∧∀ x∈t.starts,0≤x.st∧x.st < (n:Int)) (hs2:n2≤100000∧∀ x∈t.ends,0≤x.st∧x.st < (n:Int)) (hal:t.arcs.length≤16384) (hok:∀ x∈t.arcs,0≤x.fr∧x.fr < (n:Int)∧0≤x.to∧x.to < (n:Int)) :
    SeqStopsK Fence.wide d Tryz.prog 91 #[.pointer (some ⟨Bt,0,none⟩),.pointer (some ⟨Bo,0,none⟩),.pointer (some ⟨Bb,0,none⟩)] (fun x:Fin n => #[.int .i64 ((x.val:Nat):Int)]) (KeepF w5.heap.size) (fun ys => Uses t n (ys.map Fin.val)) (fun _ => True) n w5:=by
 intro l J Jx W hW hJ hJx hY h0
 have g1:GrpP (fun k => k < W.heap.size) encI 1 W L1 n (onS t.arcs t.arcs.length):=by
  have h1:=h.g1.call hW
  exact GrpP.of_grp h1 (own_lt h1.own L1 rfl).2 (fun s g hs hg => (own_lt (h1.row s hs) g hg).2)
 have g2:GrpP (fun k => k < W.heap.size) encI 1 W L2 n (backS t.arcs t.arcs.length):=by
  have h1:=h.g2.call hW
  exact GrpP.of_grp h1 (own_lt h1.own L2 rfl).2 (fun s g hs hg => (own_lt (h1.row s hs) g hg).2)
 refine (useful1_in d hd l Bt Bo Bb L1 L2 n w5.heap.size t A1 A2 A3 n1 c1 n2 c2 n3 c3 (fun ys W => ∃ ys':List (Fin n),ys'.map Fin.val = ys∧J ys' W) (fun ys W => ∃ ys':List (Fin n),ys'.map Fin.val = ys∧Jx ys' W) W
  (fun s A B row hs hg hr => by obtain ⟨ys',e,hj⟩:=hs; exact ⟨ys',e,hJ ys' A B row hj hg hr⟩) hW.size ?_ (h.bt.below hW h.bt.lt) (h.bo.below hW h.bo.lt) (h.bb.below hW h.bb.lt) g1 g2
  ((hR1.below hW).more hW.size) ((hR2.below hW).more hW.size) hn hs1 hs2 hal hok ⟨[],rfl,h0⟩).mono ?_
 ·rintro pre x W1 hx ⟨ys',rfl,hj⟩ hlt
  rw [List.length_map] at hlt
  refine (hY ys' ⟨x,hx⟩ W1 hj hlt).mono ?_
  rintro e W' (⟨h1,h2,h3⟩ | ⟨h1,h2⟩)
  ·exact .inl ⟨h1,⟨_,by rw [List.map_append]; rfl,h2⟩,h3⟩
  ·exact .inr ⟨h1,⟨_,by rw [List.map_append]; rfl,h2⟩⟩
 ·rintro e W' ⟨h1,(⟨ys,hu,ys',rfl,hj⟩ | ⟨pre,_,ys',rfl,hj⟩)⟩
  ·exact ⟨h1,.inl ⟨ys',hu,hj⟩⟩
  ·exact ⟨h1,.inr ⟨ys',trivial,hj⟩⟩
end Go.Proofs.YtcondkihpmmnnaaGreatDoor
namespace Go.Proofs.YtcondkihpmmnnaaGreatDoor
theorem some_byte (s:St) (h:StW s) (hn:s≠St.none):∃ b:UInt8,s.m b.toNat = true:=by
 refine Classical.byContradiction fun hc => hn ?_
 have hm:∀ b,b < 256→s.m b = false:=fun b hb => by
  rcases hh:s.m b with _ | _
  ·rfl
  ·exact (hc ⟨UInt8.ofNat b,by rw [show (UInt8.ofNat b).toNat = b from by simp [Nat.mod_eq_of_lt hb]]; exact hh⟩).elim
 have hw:∀ i,i < 4→word s.m i = 0:=fun i hi => by
  apply Nat.eq_of_testBit_eq
  intro k
  rw [Nat.zero_testBit,word_testBit]
  by_cases hk:k < 64
  ·rw [hm _ (by omega)]; simp
  ·simp [hk]
 obtain ⟨h1,h2,h3,h4⟩:=St.word_m s h
 rw [hw 0 (by decide)] at h1
 rw [hw 1 (by decide)] at h2
 rw [hw 2 (by decide)] at h3
 rw [hw 3 (by decide)] at h4
 obtain ⟨a,b,c,d⟩:=s
 simp only at h1 h2 h3 h4
 rw [h1,h2,h3,h4]
 rfl
section
variable {A:List Ar} {n:Nat}
theorem mem_onS {s:Nat} {z:Int}:z∈onS A A.length s↔∃ x∈A,x.fr = (s:Int)∧x.to = z:=by
 unfold onS
 rw [List.take_length,List.mem_map]
 constructor
 ·rintro ⟨x,hx,e⟩
  rw [List.mem_filter,decide_eq_true_iff] at hx
  exact ⟨x,hx.1,hx.2,e⟩
 ·rintro ⟨x,hx,e1,e2⟩
  exact ⟨x,List.mem_filter.2 ⟨hx,by simpa using e1⟩,e2⟩
theorem mem_backS {s:Nat} {z:Int}:z∈backS A A.length s↔∃ x∈A,x.to = (s:Int)∧x.fr = z:=by
 unfold backS
 rw [List.take_length,List.mem_map]
 constructor
 ·rintro ⟨x,hx,e⟩
  rw [List.mem_filter,decide_eq_true_iff] at hx
  exact ⟨x,hx.1,hx.2,e⟩
 ·rintro ⟨x,hx,e1,e2⟩
  exact ⟨x,List.mem_filter.2 ⟨hx,by simpa using e1⟩,e2⟩
theorem way_of_rt (hA:∀ x∈A,StW x.set∧x.set≠St.none) {s z:Nat} (h:RT (onS A A.length) s z):∃ w o,Way A (s:Int) w o (z:Int):=by
 induction h with
 | refl => exact ⟨_,_,.nil _⟩
 | step _ hz ih =>
  obtain ⟨w,o,hw⟩:=ih
  obtain ⟨x,hx,e1,e2⟩:=mem_onS.1 hz
  obtain ⟨b,hb⟩:=some_byte x.set (hA x hx).1 (hA x hx).2
  have hk:Way A x.to [] [] x.to:=.nil _
  rw [← e2]
  exact ⟨_,_,hw.app (.cons x hx e1 hb hk)⟩
theorem way_of_rtB (hA:∀ x∈A,StW x.set∧x.set≠St.none) {s z:Nat} (h:RT (backS A A.length) s z):∃ w o,Way A (z:Int) w o (s:Int):=by
 induction h with
 | refl => exact ⟨_,_,.nil _⟩
 | step _ hz ih =>
  obtain ⟨w,o,hw⟩:=ih
  obtain ⟨x,hx,e1,e2⟩:=mem_backS.1 hz
  obtain ⟨b,hb⟩:=some_byte x.set (hA x hx).1 (hA x hx).2
  rw [← e1] at hw
  exact ⟨b :: w,_,Way.cons x hx e2 hb hw⟩
theorem rt_of_way (hok:∀ x∈A,0≤x.to):∀ {s z:Int} {w o:List UInt8},Way A s w o z→0≤s→RT (onS A A.length) s.toNat z.toNat∧RT (backS A A.length) z.toNat s.toNat:=by
 intro s z w o h
 induction h with
 | nil s => exact fun _ => ⟨.refl _,.refl _⟩
 | @cons s z b w o x hx hs hb _ ih =>
  intro h0
  obtain ⟨i1,i2⟩:=ih (hok x hx)
  have e1:((s.toNat:Nat):Int) = s:=Int.toNat_of_nonneg h0
  have e2:((x.to.toNat:Nat):Int) = x.to:=Int.toNat_of_nonneg (hok x hx)
  exact ⟨RT.head (mem_onS.2 ⟨x,hx,by rw [e1]; exact hs,e2.symm⟩) i1,.step i2 (mem_backS.2 ⟨x,hx,e2.symm,by rw [e1]; exact hs⟩)⟩
end
theorem uses_use {t:Fs} {n:Nat} (hn:t.n = (n:Int)) (hS:∀ x∈t.starts,0≤x.st∧x.st < t.n) (hE:∀ x∈t.ends,0≤x.st∧x.st < t.n) (hA:∀ x∈t.arcs,0≤x.fr∧x.fr < t.n∧0≤x.to∧x.to < t.n∧StW x.set∧x.set≠St.none)
    (s:Nat) (hs:s < n):(Leads t.starts (onS t.arcs t.arcs.length) s∧Leads t.ends (backS t.arcs t.arcs.length) s)↔Useful t (s:Int):=by
 have hA':∀ x∈t.arcs,StW x.set∧x.set≠St.none:=fun x hx => ⟨(hA x hx).2.2.2.2.1,(hA x hx).2.2.2.2.2⟩
 have hto:∀ x∈t.arcs,0≤x.to:=fun x hx => (hA x hx).2.2.1
 constructor
 ·rintro ⟨⟨x,hx,s1,e1,h1⟩,⟨y,hy,s2,e2,h2⟩⟩
  obtain ⟨w1,o1,k1⟩:=way_of_rt hA' h1
  obtain ⟨w2,o2,k2⟩:=way_of_rtB hA' h2
  refine ⟨⟨by omega,by omega⟩,⟨x,hx,w1,o1,by rw [e1]; exact k1⟩,⟨y,hy,w2,o2,by rw [e2]; exact k2⟩⟩
 ·rintro ⟨_,⟨x,hx,w1,o1,k1⟩,⟨y,hy,w2,o2,k2⟩⟩
  have r1:=(rt_of_way hto k1 (hS x hx).1).1
  have r2:=(rt_of_way hto k2 (by omega)).2
  rw [Int.toNat_natCast] at r1 r2
  exact ⟨⟨x,hx,_,(Int.toNat_of_nonneg (hS x hx).1).symm,r1⟩,⟨y,hy,_,(Int.toNat_of_nonneg (hE y hy).1).symm,r2⟩⟩
theorem trims_of {t:Fs} {n:Nat} {zs:List Nat} (hn:t.n = (n:Int)) (hS:∀ x∈t.starts,0≤x.st∧x.st < t.n) (hE:∀ x∈t.ends,0≤x.st∧x.st < t.n) (hA:∀ x∈t.arcs,0≤x.fr∧x.fr < t.n∧0≤x.to∧x.to < t.n∧StW x.set∧x.set≠St.none)
    (hU:Uses t n zs):Trims t (sortF (trF t zs)) (fun s => numF zs s.toNat):=by
 obtain ⟨p,hp,rfl⟩:=hU
 have hmem:∀ s,s < n→(s∈(List.range n).filter p↔Useful t (s:Int)):=fun s hs => by
  rw [List.mem_filter,List.mem_range,hp s hs,uses_use hn hS hE hA s hs]
  exact ⟨fun h => h.2,fun h => ⟨hs,h⟩⟩
 have hnd:((List.range n).filter p).Nodup:=List.nodup_range.filter _
 have hlt:∀ s∈(List.range n).filter p,s < n:=fun s hs => List.mem_range.1 (List.mem_filter.1 hs).1
 generalize (List.range n).filter p = zs at *
 have hcast:∀ s:Int,stOk t.n s→((s.toNat:Nat):Int) = s∧s.toNat < n:=fun s hs => by
  have:=hs.1
  have:=hs.2
  exact ⟨Int.toNat_of_nonneg hs.1,by omega⟩
 refine ⟨Int.natCast_nonneg _,fun s hs => ?_,fun s hs => (numF_ge zs s.toNat).2.1,fun s z hs hz h0 he => ?_,fun k hk => ?_,fun y => ?_,fun y => ?_,fun e => ?_⟩
 ·obtain ⟨h1,h2⟩:=hcast s hs
  have:=hmem s.toNat h2
  rw [h1] at this
  exact (numF_ge zs s.toNat).2.2.trans this
 ·have h1:=(hcast s hs).1
  have h2:=(hcast z hz).1
  have:=numF_inj zs s.toNat z.toNat h0 he
  rw [← h1,← h2,this]
 ·have hk1:0≤k:=hk.1
  have hk2:k < (zs.length:Int):=hk.2
  obtain ⟨s,hs,he⟩:=numF_sur zs hnd k.toNat (by omega)
  refine ⟨(s:Int),⟨by omega,by have:=hlt s hs; omega⟩,?_⟩
  show numF zs ((s:Int).toNat) = k
  rw [Int.toNat_natCast,he]
  exact Int.toNat_of_nonneg hk1
 ·show y∈ordT (trT zs t.starts)↔_
  rw [ordT_mem]
  unfold trT
  rw [List.mem_map]
  constructor
  ·rintro ⟨x,hx,rfl⟩; rw [List.mem_filter,decide_eq_true_iff] at hx; exact ⟨x,hx.1,hx.2,rfl⟩
  ·rintro ⟨x,hx,h0,rfl⟩; exact ⟨x,List.mem_filter.2 ⟨hx,by simpa using h0⟩,rfl⟩
 ·show y∈ordT (trT zs t.ends)↔_
  rw [ordT_mem]
  unfold trT
  rw [List.mem_map]
  constructor
  ·rintro ⟨x,hx,rfl⟩; rw [List.mem_filter,decide_eq_true_iff] at hx; exact ⟨x,hx.1,hx.2,rfl⟩
  ·rintro ⟨x,hx,h0,rfl⟩; exact ⟨x,List.mem_filter.2 ⟨hx,by simpa using h0⟩,rfl⟩
 ·show e∈ordA (trA zs t.arcs)↔_
  rw [ordA_mem]
  unfold trA
  rw [List.mem_map]
  constructor
  ·rintro ⟨x,hx,rfl⟩; rw [List.mem_filter,decide_eq_true_iff] at hx; exact ⟨x,hx.1,hx.2.1,hx.2.2,rfl⟩
  ·rintro ⟨x,hx,h0,h1,rfl⟩; exact ⟨x,List.mem_filter.2 ⟨hx,by simpa using ⟨h0,h1⟩⟩,rfl⟩
theorem trT_B {zs:List Nat} {l:List Tp} (hl:l.length≤1024) (h:∀ x∈l,x.out.size≤1024):TipsB (zs.length:Int) (trT zs l):=by
 refine ⟨Nat.le_trans (trT_len zs l) hl,fun x hx => ?_⟩
 unfold trT at hx
 obtain ⟨y,hy,rfl⟩:=List.mem_map.1 hx
 rw [List.mem_filter,decide_eq_true_iff] at hy
 exact ⟨hy.2,(numF_ge zs _).2.1,h y hy.1⟩
theorem trA_B {zs:List Nat} {l:List Ar} (hl:l.length≤16384) (h:∀ x∈l,x.out.size≤1024∧StW x.set∧x.set≠St.none):ArcsB (zs.length:Int) (trA zs l):=by
 refine ⟨Nat.le_trans (trA_len zs l) hl,fun x hx => ?_⟩
 unfold trA at hx
 obtain ⟨y,hy,rfl⟩:=List.mem_map.1 hx
 rw [List.mem_filter,decide_eq_true_iff] at hy
 exact ⟨hy.2.1,(numF_ge zs _).2.1,hy.2.2,(numF_ge zs _).2.1,(h y hy.1).1,(h y hy.1).2.1,(h y hy.1).2.2⟩
theorem ordT_len (l:List Tp):(ordT l).length≤l.length:=by
 have:=once1_len (sortT l) (sortT l).length
 rw [List.take_length,sortT_len] at this
 exact this
theorem ordA_len (l:List Ar):(ordA l).length≤l.length:=by
 have:=once1_len (sortA l) (sortA l).length
 rw [List.take_length] at this
 exact Nat.le_trans this (Nat.le_of_eq (List.length_mergeSort _))
theorem fckB_sort {N:Int} {S E:List Tp} {A:List Ar} (hn:0≤N∧N≤1024) (hS:TipsB N S) (hE:TipsB N E) (hA:ArcsB N A):fckB (sortF ⟨N,S,E,A⟩) = true :=
 fckB_of hn ⟨Nat.le_trans (ordT_len _) hS.1,fun x hx => hS.2 x ((ordT_mem _ _).1 hx)⟩ ⟨Nat.le_trans (ordT_len _) hE.1,fun x hx => hE.2 x ((ordT_mem _ _).1 hx)⟩ ⟨Nat.le_trans (ordA_len _) hA.1,fun x hx => hA.2 x ((ordA_mem _ _).1 hx)⟩
end Go.Proofs.YtcondkihpmmnnaaGreatDoor
