/- Lemmas, part 16 of 39. No condition. -/
import Derived.Test.YtcondkihpmmnnaaGreatDoorUniqueP07
import Derived.Test.YtcondkihpmmnnaaGreatDoorUniqueP12
import Derived.Test.YtcondkihpmmnnaaGreatDoorUniqueP08
import Derived.Test.YtcondkihpmmnnaaGreatDoorUniqueP06
import Derived.Test.YtcondkihpmmnnaaGreatDoorUniqueP09
import Derived.Test.YtcondkihpmmnnaaGreatDoorUniqueP13
import Derived.Test.YtcondkihpmmnnaaGreatDoorUniqueP10
import Derived.Deep.Cut
import Derived.Deep.CutRange
import Derived.Test.YtcondkihpmmnnaaGreatDoorUniqueP05
import Derived.Test.YtcondkihpmmnnaaGreatDoorUniqueP15
namespace Go.Proofs.YtcondkihpmmnnaaGreatDoor
open Go.RowKit Go.Sort
def WaysPost (r:Option (List Tp)) (w:World) (e:Ending) (w':World):Prop :=
 Below w.heap.size w w'∧match r with
  | none => e = .returned (.tuple #[.slice none 0 0,.bool false])
  | some l => ∃ A c,e = .returned (.tuple #[.slice A l.length c,.bool true])∧l.length≤c∧c≤maxLen∧Reads w' w'.heap.size 2 A l.length (encs encT (sortT l))∧(0 < l.length→∃ g,A = some ⟨g,0,none⟩∧w.heap.size≤g)
theorem own_built (w:World) (base k m:Nat) (T:TypeId) (xs:List Value) (h:xs.length = m * k) (hb:base≤w.heap.size) (hm:m≤maxLen):(w.alloc (.cells xs.toArray T)).ownsRow base T k (.slice (some ⟨w.heap.size,0,none⟩) m m) m xs:=by
 refine ⟨h,.inr ⟨w.heap.size,m,xs.toArray,rfl,hb,Blk.new w T xs.toArray,Nat.le_refl _,hm,by simpa using h,?_⟩⟩
 show xs.take (m * k) = xs
 rw [← h,List.take_length]
theorem own_map_ne {w:World} {base k n m b:Nat} {T K:TypeId} {v:Value} {xs:List Value} {D:DataW Unit} (h:w.ownsRow base T k v n xs) (hm:w.ownsMap Tryz.prog K unitElem b m D):v.ownBlock≠some b:=by
 rcases h.2 with ⟨rfl,_⟩ | ⟨g,cap,cur,rfl,_,hh,_⟩
 ·intro e; cases e
 ·obtain ⟨es,clock,hb,_⟩:=hm
  intro e
  have e:=Option.some.inj e
  rw [show g = b from e] at hh
  rw [hh] at hb
  cases hb
structure WaysW (w wr:World) (M:Nat) (v8 v11:Value) (now next:List Tp):Prop where
 now:wr.ownsRow w.heap.size 54 2 v8 now.length (encs encT now)
 nxt:wr.ownsRow w.heap.size 54 2 v11 next.length (encs encT next)
 ap:Apart v8 v11
 seen:Seen 54 encT TpW wr M next
 gM:w.heap.size≤M
 lt:M < wr.heap.size
 bel:Below w.heap.size w wr
section
variable {w wr w':World} {M:Nat} {v8 v11:Value} {now next:List Tp}
theorem WaysW.call (h:WaysW w wr M v8 v11 now next) (hb:Below wr.heap.size wr w'):WaysW w w' M v8 v11 now next :=
 ⟨own_below h.now hb,own_below h.nxt hb,h.ap,h.seen.below hb (Nat.le_refl _),h.gM,by have:=h.lt; have:=hb.size; omega,h.bel.trans (hb.mono h.bel.size)⟩
end
theorem zero_unit (W:World):(zeroValue 158).run Tryz.prog W = .ok (.agg #[]) W:=by kernel_rfl
theorem Seen.ne {α:Type} {T:TypeId} {enc:α→List Value} {ok:α→Prop} {w:World} {b:Nat} {l:List α} (h:Seen T enc ok w b l) {base:Nat} {e:TypeId} {size n:Nat} {v:Value} {xs:List Value} (ho:w.ownsRow base e size v n xs):some b≠v.ownBlock:=by
 obtain ⟨_,D,h1,_⟩:=h
 exact fun e => own_map_ne ho h1 e.symm
theorem WaysW.put {w wr w1 w2:World} {M:Nat} {v8 v11 v':Value} {now next:List Tp} (h:WaysW w wr M v8 v11 now next) (q:Tp) (hg1:wr.grownBy w1 (some M)) (hs:Seen 54 encT TpW w1 M (next ++ [q])) {o:Obj}
    (hg2:(w1.alloc o).grownBy w2 v11.ownBlock) (ho:w2.ownsRow w.heap.size 54 2 v' (next.length + 1) (encs encT next ++ encT q)) (hl:v'.ownBlock = v11.ownBlock∨v'.ownBlock = some (w1.alloc o).heap.size) :
    WaysW w w2 M v8 v' now (next ++ [q]):=by
 have n1:=(h.now.kept hg1 (.inr fun e => h.seen.ne h.now e.symm)).alloc o
 have n2:=(h.nxt.kept hg1 (.inr fun e => h.seen.ne h.nxt e.symm)).alloc o
 have s1:=hs.below ((Below.refl w1.heap.size w1).alloc (Nat.le_refl _) o) (Nat.le_refl _)
 have z1:=hg1.size
 have z2:=hg2.size
 have hb:=h.bel.size
 have hM:=h.gM
 have hlt:=h.lt
 rw [World.size_alloc] at z2
 refine ⟨n1.kept hg2 h.ap.or_none,by rw [List.length_append,encs_snoc]; exact ho,?_,s1.kept hg2 (s1.ne n2),hM,by omega,?_⟩
 ·intro g h1 h2
  rcases hl with e | e
  ·exact h.ap g h1 (by rw [← e]; exact h2)
  ·rw [e] at h2
   have:=(own_lt n1 g h1).2
   have:=Option.some.inj h2
   omega
 ·have b1:=h.bel.grown hg1 (by omega) (fun k hk => by have:=Option.some.inj hk; omega)
  exact (b1.alloc (by omega) o).grown hg2 (by rw [World.size_alloc]; omega) (fun k hk => (own_lt n2 k hk).1)
theorem grown_of_below {w w':World} (hb:Below w.heap.size w w'):w.grownBy w' none:=⟨hb.os,hb.tape,hb.output,hb.size,fun k hk _ => hb.block k hk⟩
theorem blk_map_ne {H:Type} {w:World} {g n b:Nat} {T K:TypeId} {cs:Array Value} {R:Value→Option (DataW H × List MemPlace)} {D:DataW H} (h:Blk w g T cs) (hm:w.ownsMap Tryz.prog K R b n D):some g≠some b:=by
 obtain ⟨es,clock,hb,_⟩:=hm
 intro e
 have e:=Option.some.inj e
 unfold Blk at h
 rw [e,hb] at h
 cases h
theorem WaysW.own1 {w wr w1:World} {M:Nat} {v8 v11:Value} {now next:List Tp} (h:WaysW w wr M v8 v11 now next) (hg1:wr.grownBy w1 (some M)) (o:Obj) :
    (w1.alloc o).ownsRow w.heap.size 54 2 v11 next.length (encs encT next)∧w.heap.size≤(w1.alloc o).heap.size:=by
 refine ⟨(h.nxt.kept hg1 (.inr fun e => h.seen.ne h.nxt e.symm)).alloc o,?_⟩
 have:=hg1.size
 have:=h.bel.size
 rw [World.size_alloc]
 omega
theorem eg_C:∀ args w,(callFunc 118 args).run Tryz.prog w = .ok (.enter 118 args) w:=enters_of Tryz.func118 (by kernel_rfl) rfl
theorem sortTip_own (F:Nat) (eg:∀ args w,(callFunc F args).run Tryz.prog w = .ok (.enter F args) w)
    (hF:∀ (x y:Tp) (W:World),Calls Tryz.prog F #[.agg (encT x).toArray,.agg (encT y).toArray] W fun e w' => e = .returned (.int .i64 (cmpT x y))∧Grew W w')
    (A:Option Addr) (n c base:Nat) (l:List Tp) (w:World) (ho:w.ownsRow base 54 2 (.slice A n c) n (encs encT l)) (hl:l.length = n) (hn:n≤1000000) (_hb:base≤w.heap.size) :
    Calls Tryz.prog 80 #[.slice A n c,.func (.func F) #[] #[]] w fun e w' => e = .returned (.tuple #[])∧Reads w' w'.heap.size 2 A n (encs encT (sortT l))∧Below base w w':=by
 rcases Nat.eq_zero_or_pos n with h0 | h0
 ·subst h0
  have e0:l = []:=List.eq_nil_of_length_eq_zero hl
  subst e0
  have e1:sortT [] = []:=by unfold sortT; rw [List.mergeSort_nil]
  rw [e1]
  refine (sortT_void A c _ w).mono ?_
  rintro e w' ⟨rfl,rfl⟩
  exact ⟨rfl,⟨rfl,fun h => absurd h (Nat.lt_irrefl 0)⟩,Below.refl _ _⟩
 ·obtain ⟨g1,cap,hv,hg0,hg1,hcap,hcm,HM⟩:=RowM.of_own encT_len tp0 ho hl h0
  injection hv with hv1 _ hv2
  subst hv1 hv2 hl
  refine (sortTip_any F eg hF g1 c l w HM hg1 hn).mono ?_
  rintro e w' ⟨rfl,HM2,hb2⟩
  have hlen:(sortT l).length = l.length:=sortT_len l
  have hR:=HM2.reads encT_len (by decide) tp0 (Nat.le_refl _) (show g1 < w'.heap.size from Nat.lt_of_lt_of_le hg1 (hb2 0 (by omega)).size)
  rw [hlen] at hR
  exact ⟨rfl,hR,hb2 base hg0⟩
theorem nxT_sizeB (sp:Int) (po:ByteArray) (x:Ar) (b:UInt8) (k:Nat) (h1:po.size≤k * 1025) (h2:x.out.size≤1024):(nxT ⟨sp,po⟩ x b).out.size≤(k + 1) * 1025:=by
 have:=nxT_size ⟨sp,po⟩ x b
 simp only at this
 omega
theorem cut_one (t:ByteArray) (k:Nat) (h:k < t.size):t.extract k (k + 1) = ⟨#[t[k]]⟩:=by
 apply ByteArray.ext
 apply Array.ext
 ·simp; have:t.data.size = t.size:=rfl; omega
 ·intro i h1 h2
  have:i = 0:=by simpa using h2
  subst this
  simp; rfl
def Few (n m:Nat) (l:List Tp):Prop:=∀ p∈l,0≤p.st∧p.st < n∧p.out.size≤m * 1025
set_option maxRecDepth 100000 in
set_option maxHeartbeats 8000000 in
theorem ways_any (ar:List Ar) (n L:Nat) (s:Nat) (t:ByteArray) (B:Nat) (w:World) (HG:GrpR encA 8 w B L n (leavS ar ar.length)) (hB:B≤w.heap.size) (_hn:n≤1024) (hs:s < n) (ht:t.size≤1024)
    (hok:∀ x∈ar,ArW x∧0≤x.to∧x.to < n∧x.out.size≤1024) (hal:ar.length≤16384) :
    Calls Tryz.prog 90 #[.slice (some ⟨L,0,none⟩) n n,.int .i64 (s:Int),.string t] w (WaysPost (waysF ar s (bl t)) w):=by
 have HN0:(w.alloc (.cells #[.int .i64 (s:Int),.string ByteArray.empty] 54)).ownsRow w.heap.size 54 2 (.slice (some ⟨w.heap.size,0,none⟩) 1 1) 1 [.int .i64 (s:Int),.string ByteArray.empty] :=
  own_built w w.heap.size 2 1 54 _ rfl (Nat.le_refl _) (by decide)
 have HB0:Below w.heap.size w (w.alloc (.cells #[.int .i64 (s:Int),.string ByteArray.empty] 54)):=(Below.refl _ w).alloc (Nat.le_refl _) _
 have HOK:=Lib.hid hok
 have hmm:=@run_makeMap Tryz.prog
 have hpn:=Lib.hid (fun w' (h:waysF ar s (bl t) = none) (hb:Below w.heap.size w w') => show WaysPost (waysF ar s (bl t)) w (.returned (.tuple #[.slice none 0 0,.bool false])) w' from ⟨hb,by rw [h]⟩)
 have HAL:=Lib.hid (fun s => Nat.le_trans (leavS_len ar ar.length s) hal)
 clear hok hal
 go_enter Tryz.func90,Tryz.ntmps90
 go_wp2
 go_loopw [8,24] (fun v i wr => ∃ (k:Nat) (now:List Tp),k≤t.size∧i = .int .i64 ((k:Nat):Int)∧waysF ar s ((bl t).take k) = some now∧wr.ownsRow w.heap.size 54 2 v now.length (encs encT now)∧Below w.heap.size w wr∧now.length≤4096∧Few n k now) (fun _ i _ => t.size - (intOf i).toNat)
 case atStart => exact ⟨0,[⟨(s:Int),ByteArray.empty⟩],Nat.zero_le _,rfl,rfl,HN0,HB0,by simp,fun p hp => by rw [List.mem_singleton] at hp; subst hp; exact ⟨by simp,by simpa using hs,Nat.zero_le _⟩⟩
 case round =>
  clear HN0 HB0
  obtain ⟨k,now,hk,rfl,hw,hown,hbel,hlen,hnow⟩:=hrel
  have Hw:=Lib.hid hw
  clear hw
  obtain ⟨A8,c8,rfl,n1,n2,n3⟩:=own_form hown
  by_cases hlt:k < t.size
  ·have hi1:(0:Int)≤(k:Int):=by omega
   have hi2:(k:Int) < (t.size:Int):=by omega
   have Hkb:=Lib.hid (get_some t k hlt)
   have Hnow:=Lib.hid hnow
   have HW0:WaysW w (wr.alloc (.map #[] 0)) wr.heap.size (.slice A8 now.length c8) (.slice none 0 0) now [] :=
    ⟨hown.alloc _,World.ownsRow_nil _ _ _ _,(fun g _ h => by cases h),Seen.made wr,hbel.size,by simp,hbel.alloc hbel.size _⟩
   have HG0:=HG.below (hbel.mono hB)
   clear hnow hown hbel
   generalize hlm:now.length = m at *
   have Hlm:=Lib.hid hlm
   clear hlm
   go_wp2
   generalize wr.heap.size = M at *
   go_loopw [11,30] (fun v i w2 => ∃ (j:Nat) (next:List Tp),j≤m∧i = .int .i64 ((j:Nat):Int)∧puts (outsP ar t[k] (now.take j)) = some next∧WaysW w w2 M (.slice A8 m c8) v now next∧Few n (k + 1) next) (fun _ i _ => m - (intOf i).toNat)
   case atStart => exact ⟨0,[],Nat.zero_le _,rfl,rfl,HW0,fun _ h => by cases h⟩
   case round =>
    clear HW0
    obtain ⟨j,next,hj,rfl,hpu,HW,hfn⟩:=hrel
    have Hpu:=Lib.hid hpu
    have Hfn:=Lib.hid hfn
    clear hpu hfn
    obtain ⟨A11,c11,rfl,e1,e2,_⟩:=own_form HW.nxt
    by_cases hjt:j < m
    ·have hj1:(0:Int)≤(j:Int):=by omega
     have hj2:(j:Int) < (m:Int):=by omega
     have hnow2:=HW.now
     rw [Hlm.out] at hnow2
     obtain ⟨g,o,rfl,hgB,d0,d1⟩:=tip_cell (Reads.of_own hnow2) j hjt
     have hpm:now.getD j tp0∈now:=by
      rw [List.getD_eq_getElem?_getD,List.getElem?_eq_getElem (by have:=Hlm.out; omega)]
      exact List.getElem_mem _
     obtain ⟨q1,q2,q3⟩:=Hnow.out _ hpm
     obtain ⟨sp,hsp⟩:∃ sp:Nat,(now.getD j tp0).st = (sp:Int):=⟨_,(Int.toNat_of_nonneg q1).symm⟩
     have hsn:sp < n:=by omega
     have hs1:(0:Int)≤(sp:Int):=by omega
     have hs2:(sp:Int) < (n:Int):=by omega
     obtain ⟨AX,cX,x0w,x1,x2,x3⟩:=HG.2 sp hsn
     have x0:=((HW.bel.mono hB).cell (p:=⟨L,sp,none⟩) HG.1).trans x0w
     have HNX:=Lib.hid (outsP_next ar t[k] now sp j (by have:=Hlm.out; omega) hsp)
     have HPX:=Lib.hid (fun k3 => outsJ_pre ar t[k] now sp j k3 (by have:=Hlm.out; omega) hsp)
     generalize hpe:now.getD j tp0 = p at *
     have HP:=Lib.hid hpe
     obtain ⟨st,po⟩:=p
     simp only at hsp d0 d1 q1 q2 q3
     subst hsp
     clear hpe
     have HW1:=HW.call ((Below.refl wr.heap.size wr).alloc (Nat.le_refl _) (.cells #[.int .i64 (sp:Int),.string po] 54))
     have HG13:=Blk.new wr 54 #[.int .i64 (sp:Int),.string po]
     have x0':=(((Below.refl wr.heap.size wr).alloc (Nat.le_refl _) (.cells #[.int .i64 (sp:Int),.string po] 54)).cell (p:=⟨L,sp,none⟩) (by have:=HG.1; have:=HW.bel.size; show L < _; omega)).trans x0
     have g0:=HG13.cell 0
     have gl13:w.heap.size≤wr.heap.size:=HW.bel.size
     have hnb:(Value.slice A11 next.length c11).ownBlock≠some wr.heap.size:=fun e => by have:=(own_lt HW.nxt _ e).2; omega
     have hxl:=HAL.out sp
     generalize hxs:leavS ar ar.length sp = xs at *
     have Hxs:=Lib.hid hxs
     generalize hml:xs.length = ml at *
     have Hml:=Lib.hid hml
     clear hnow2 hpm HW x0 x0w q1 hxs hml
     go_wp2
     generalize wr.heap.size = G13 at *
     clear g0 d0 d1 x0'
     go_loopw [11,40] (fun v i w3 => ∃ (l:Nat) (next:List Tp),l≤ml∧i = .int .i64 ((l:Nat):Int)∧puts (outsJ ar t[k] now xs j l) = some next∧WaysW w w3 M (.slice (some ⟨g,o,none⟩) m c8) v now next∧Blk w3 G13 54 #[.int .i64 (sp:Int),.string po]∧v.ownBlock≠some G13∧Few n (k + 1) next) (fun _ i _ => ml - (intOf i).toNat)
     case atStart => exact ⟨0,next,Nat.zero_le _,rfl,by rw [outsJ_zero]; exact Hpu.out,HW1,HG13,hnb,Hfn.out⟩
     case round =>
      clear HW1 HG13
      obtain ⟨l,nx3,hl,rfl,hpu3,HW3,HG3,hnb3,hfn3⟩:=hrel
      have Hpu3:=Lib.hid hpu3
      have Hfn3:=Lib.hid hfn3
      have X3:=x3.below (HW3.bel.mono hB)
      clear hpu3 hfn3
      obtain ⟨A3,cc3,rfl,f1,f2,f3⟩:=own_form HW3.nxt
      by_cases hlt3:l < ml
      ·have hl1:(0:Int)≤(l:Int):=by omega
       have hl2:(l:Int) < (ml:Int):=by omega
       obtain ⟨gx,ox,rfl,hgx,a0,a1,a2,a3,a4,a5,a6,a7⟩:=arc_cell X3 l hlt3
       have hxm:xs.getD l ar0∈ar:=by
        have h1:xs.getD l ar0∈xs:=by
         rw [List.getD_eq_getElem?_getD,List.getElem?_eq_getElem (by have:=Hml.out; omega)]
         exact List.getElem_mem _
        have h2:∀ y,y∈xs→y∈ar:=fun y hy => by
         rw [← Hxs.out] at hy
         unfold leavS at hy
         exact List.mem_of_mem_take (List.mem_filter.1 hy).1
        exact h2 _ h1
       obtain ⟨⟨_,_,_,_,hstw,_⟩,r1,r2,r3⟩:=HOK.out _ hxm
       have HNJ:=Lib.hid (outsJ_next ar t[k] now xs j l (by have:=Hml.out; omega))
       rw [HP.out] at HNJ
       generalize xs.getD l ar0 = x at *
       obtain ⟨fr,tt,⟨s1,s2,s3,s4⟩,q,cp⟩:=x
       simp only at a0 a1 a2 a3 a4 a5 a6 a7 hstw r1 r2 r3
       have HW4:=HW3.call ((Below.refl wr.heap.size wr).alloc (Nat.le_refl _) (.cells #[.int .i64 fr,.int .i64 tt,.int .u64 (s1:Int),.int .u64 (s2:Int),.int .u64 (s3:Int),.int .u64 (s4:Int),.string q,.bool cp] 61))
       have HG15:=Blk.new wr 61 #[.int .i64 fr,.int .i64 tt,.int .u64 (s1:Int),.int .u64 (s2:Int),.int .u64 (s3:Int),.int .u64 (s4:Int),.string q,.bool cp]
       have HG13':=HG3.alloc (.cells #[.int .i64 fr,.int .i64 tt,.int .u64 (s1:Int),.int .u64 (s2:Int),.int .u64 (s3:Int),.int .u64 (s4:Int),.string q,.bool cp] 61)
       have b2:=cell_regrown (HG15.cell 2)
       have b3:=cell_regrown (HG15.cell 3)
       have b4:=cell_regrown (HG15.cell 4)
       have b5:=cell_regrown (HG15.cell 5)
       have hHas:=fun W => hasS_any ⟨s1,s2,s3,s4⟩ hstw t[k].toNat W (u8_lt _)
       clear X3 hxm HG3
       rcases hmb:(St.m ⟨s1,s2,s3,s4⟩ t[k].toNat) with _ | _
       ·rw [hmb] at hHas
        have HMB:=Lib.hid hmb
        clear hmb
        go_wp2
        refine wp_region_quiet_below (by kernel_rfl) (by kernel_rfl) ?_
        repeat (go_big_quiet_step ((go_at_call 110; exact gives_quiet (hHas _))))
        refine wpQuiet_nil ?_
        intro w5 hw5
        have HB5:=below_of hw5
        have HW5:=HW4.call HB5
        have HG5:=HG13'.below HB5 HG13'.lt
        have HA5:=HG15.below HB5 HG15.lt
        clear hw5 b2 b3 b4 b5 HW4 HG13' HG15 hHas
        go_wp2
        go_roundw
        case rel => exact ⟨l + 1,nx3,by omega,by go_num,by rw [HNJ.out,if_neg (show ¬ (St.m ⟨s1,s2,s3,s4⟩ t[k].toNat = true) by rw [HMB.out]; decide),List.append_nil]; exact Hpu3.out,HW5,HG5,hnb3,Hfn3.out⟩
        case measure => simp [intOf]; omega
       ·rw [hmb] at hHas
        have HMB:=Lib.hid hmb
        clear hmb
        go_wp2
        refine wp_region_quiet_below (by kernel_rfl) (by kernel_rfl) ?_
        repeat (go_big_quiet_step ((go_at_call 110; exact gives_quiet (hHas _))))
        refine wpQuiet_nil ?_
        intro w5 hw5
        have HB5:=below_of hw5
        have HW5:=HW4.call HB5
        have HG5:=HG13'.below HB5 HG13'.lt
        have HA5:=HG15.below HB5 HG15.lt
        clear hw5 b2 b3 b4 b5 HW4 HG13' HG15 hHas
        have HPS:=puts_step Hpu3.out (nxT ⟨(sp:Int),po⟩ ⟨fr,tt,⟨s1,s2,s3,s4⟩,q,cp⟩ t[k])
        have HPJ:outsJ ar t[k] now xs j (l + 1) = outsJ ar t[k] now xs j l ++ [nxT ⟨(sp:Int),po⟩ ⟨fr,tt,⟨s1,s2,s3,s4⟩,q,cp⟩ t[k]]:=by rw [HNJ.out,if_pos HMB.out]
        rw [← HPJ] at HPS
        have HPS:=Lib.hid HPS
        generalize wr.heap.size = G15 at *
        have p1:=HG5.cell 1
        have c1:=HA5.cell 1
        have c3:=HA5.cell 6
        have c4:=(HA5.alloc (.cells #[.int .i64 tt,.string (po ++ q)] 54)).cell 7
        have HW6:=HW5.call ((Below.refl w5.heap.size w5).alloc (Nat.le_refl _) (.cells #[.int .i64 tt,.string (po ++ q)] 54))
        have HG6:=HG5.alloc (.cells #[.int .i64 tt,.string (po ++ q)] 54)
        have HQ6:=Blk.new w5 54 #[.int .i64 tt,.string (po ++ q)]
        have G16lt:w.heap.size≤w5.heap.size:=HW5.bel.size
        clear HPJ HA5
        go_upto_if 60 with (fail)
        go_cut [40] from 40 to 87 (fun i wx => i = .int .i64 (l:Int)∧Below w5.heap.size w5 wx∧Blk wx w5.heap.size 54 #[.int .i64 tt,.string (nxT ⟨(sp:Int),po⟩ ⟨fr,tt,⟨s1,s2,s3,s4⟩,q,cp⟩ t[k]).out])
        case first =>
         rcases cp with _ | _
         ·go_wp2
          go_meet
          case rel => exact ⟨rfl,(Below.refl w5.heap.size w5).alloc (Nat.le_refl _) _,HQ6⟩
         ·have k1:=cell_regrown (HQ6.cell 1)
          have hsl:t.extract k (k + 1) = ⟨#[t[k]]⟩:=cut_one t k hlt
          have hki:IntKind.i64.wrap ((k:Int) + 1) = (k:Int) + 1:=IntWalk.i64_in _ (by omega)
          have hkn:((k:Int) + 1).toNat = k + 1:=by omega
          have hk0:(0:Int)≤(k:Int) + 1:=by omega
          go_wp2
          refine wp_region_tail_below 9 (by kernel_rfl) (by kernel_rfl) ?_
          simp only [List.take_succ_cons,List.take_zero,List.drop_succ_cons,List.drop_zero]
          repeat (go_big_quiet_step (fail))
          refine wpQuiet_nil ?_
          intro w6 hw6
          have HB6:=below_of hw6
          have HQ8:=HQ6.below HB6 HQ6.lt
          have k2:=HQ8.cell 1
          have k3:=HQ8.frozen 1
          clear hw6 k1
          go_wp2
          go_meet
          case rel => exact ⟨rfl,(((Below.refl w5.heap.size w5).alloc (Nat.le_refl _) _).trans (HB6.mono (by simp))).setCell (Nat.le_refl _) _,HQ8.set_ 1 _⟩
        case rest =>
         obtain ⟨rfl,HB7,HQ7⟩:=hcut
         have HW7:=HW5.call HB7
         have HG7:=HG5.below HB7 HG5.lt
         have hqz:=nxT_sizeB (sp:Int) po ⟨fr,tt,⟨s1,s2,s3,s4⟩,q,cp⟩ t[k] k q3 r3
         have hqs:(nxT ⟨(sp:Int),po⟩ ⟨fr,tt,⟨s1,s2,s3,s4⟩,q,cp⟩ t[k]).st = tt:=rfl
         generalize nxT ⟨(sp:Int),po⟩ ⟨fr,tt,⟨s1,s2,s3,s4⟩,q,cp⟩ t[k] = qq at *
         obtain ⟨qs,qo⟩:=qq
         simp only at hqs hqz
         subst hqs
         replace HQ7:Blk wc w5.heap.size 54 #[.int .i64 qs,.string qo]:=HQ7
         generalize w5.heap.size = G16 at *
         have hqw:TpW ⟨qs,qo⟩:=⟨by show (-9223372036854775808:Int)≤qs; omega,by show qs≤(9223372036854775807:Int); omega,by show qo.size≤maxLen; unfold maxLen; have:=Nat.mul_le_mul_right 1025 (show k + 1≤1025 by omega); omega⟩
         obtain ⟨kl,hkey⟩:=keyOf_tip ⟨qs,qo⟩ hqw
         obtain ⟨nD,D,hownM,hnD,hIs,hhas⟩:=id HW7.seen
         have Hhas:=Lib.hid (hhas ⟨qs,qo⟩ hqw kl hkey)
         have HAS:=Lib.hid hhas
         replace hkey:keyOf Tryz.prog 54 (.agg #[.int .i64 qs,.string qo]) = some kl:=hkey
         have e0:=HQ7.cell 0
         have e1:=HQ7.cell 1
         clear HW6 HG6 HQ6 HW5 HG5 p1 c1 c3 c4 HB7 HB5 hhas
         by_cases hmem:(⟨qs,qo⟩:Tp)∈nx3
         ·have hh:Maps.has D kl = true:=Hhas.out.2 hmem
          have HMEM:=Lib.hid hmem
          clear hmem
          go_wp2_with (at_lookup; refine wpList_lookup_own_unit _ rfl _ _ 70 rfl 54 158 law_tip Tryz.underlying70 (zero_unit _) M nD D rfl hownM _ kl rfl hkey ?_)
          go_roundw
          case rel => exact ⟨l + 1,nx3,by omega,by go_num,HPS.out.1 HMEM.out,HW7.call ((Below.refl wc.heap.size wc).alloc (Nat.le_refl _) _),HG7.alloc _,hnb3,Hfn3.out⟩
          case measure => simp [intOf]; omega
         ·have hh:Maps.has D kl = false:=by
            rcases hx:Maps.has D kl with _ | _
            ·rfl
            ·exact absurd (Hhas.out.1 hx) hmem
          have HMEM:=Lib.hid hmem
          clear hmem
          by_cases hful:4096≤nx3.length
          ·have hful2:(4096:Int)≤(nx3.length:Int):=by omega
           have hno:=Lib.hid (ways_fail Hw.out Hkb.out (HPS.out.2.1 HMEM.out hful) (HPX.out (l + 1)).choose_spec)
           have hbl:=HW7.bel.alloc (o:=.cells #[] 158) (by have:=HW7.bel.size; omega)
           go_wp2_with (at_lookup; refine wpList_lookup_own_unit _ rfl _ _ 70 rfl 54 158 law_tip Tryz.underlying70 (zero_unit _) M nD D rfl hownM _ kl rfl hkey ?_)
           exact bodyPost_ret (v:=.tuple #[.slice none 0 0,.bool false]) (by simp [results,Tryz.results90,go_sem]) rfl (hpn.out _ hno.out hbl)
          ·have hful2:nx3.length < 4096:=by omega
           have hg7:=grown_of_below ((Below.refl wc.heap.size wc).alloc (Nat.le_refl _) (.cells #[] 158))
           have HW8:=HW7.call ((Below.refl wc.heap.size wc).alloc (Nat.le_refl _) (.cells #[] 158))
           have HG8:=HG7.alloc (.cells #[] 158)
           have HQ8:=HQ7.alloc (.cells #[] 158)
           have hown8:=hownM.kept (row:=none) hg7 (by simp)
           have hnM:nD < maxLen:=by unfold maxLen; omega
           have hG8:=blk_map_ne HG8 hown8
           have hQ8:=blk_map_ne HQ8 hown8
           have e0':=HQ8.cell 0
           have e1':=HQ8.cell 1
           obtain ⟨i0,hi,hy0,hy1,hy2⟩:=info_parts tip_info
           have h63:nx3.length + 1≤maxLen:=by unfold maxLen; omega
           have hby:(nx3.length + 1) * 24≤140737488355328:=by omega
           have hone:=encT_one ⟨qs,qo⟩
           go_wp2_with (first
            | (at_lookup; refine wpList_lookup_own_unit _ rfl _ _ 70 rfl 54 158 law_tip Tryz.underlying70 (zero_unit _) M nD D rfl hownM _ kl rfl hkey ?_)
            | (at_mapUpdate; refine wpList_mapUpdate_own _ rfl _ _ _ 70 rfl 54 158 law_tip Tryz.underlying70 _ M nD D rfl hown8 hnM _ _ kl rfl rfl hkey _ [] unitElem_mk ?_; intro w8 hown9 hg8; have HQ9:=HQ8.grown hg8 hQ8; have HG9:=HG8.grown hg8 hG8; have f0':=HQ9.cell 0; have f1':=HQ9.cell 1; have hoS:=HW8.own1 hg8 (.cells #[.int .i64 qs,.string qo] 54); have hrd:=reads_allocK w8 [.int .i64 qs,.string qo] 54 2 1 rfl)
            | (at_builtin; refine wpList_append_any _ rfl _ _ 29 rfl w.heap.size 54 i0 _ 2 24 Tryz.underlying29 hi hy0 hy1 hy2 rfl (by decide) _ _ _ rfl hoS.1 _ (some ⟨w8.heap.size,0,none⟩) 1 1 [.int .i64 qs,.string qo] rfl hrd hone h63 hby hoS.2 ?_; intro v' w9 hown hgrow hloc; clear hoS hrd f0' f1' HQ9))
           have hS:=seen_put law_tip encT_inj hnD hIs HAS.out ⟨qs,qo⟩ hkey hown9
           have HW10:=HW8.put ⟨qs,qo⟩ hg8 hS hgrow hown hloc
           have HG10:=(HG9.alloc (.cells #[.int .i64 qs,.string qo] 54)).grown hgrow (fun e => hnb3 e.symm)
           have hnb4:v'.ownBlock≠some G13:=by
            intro e
            rcases hloc with h | h
            ·exact hnb3 (h.symm.trans e)
            ·rw [e] at h; have:=HG9.lt; have:=Option.some.inj h; rw [World.size_alloc] at this; omega
           clear hS hown hgrow hloc
           go_roundw
           case rel =>
            refine ⟨l + 1,nx3 ++ [⟨qs,qo⟩],by omega,by go_num,HPS.out.2.2 HMEM.out (by omega),HW10,HG10,hnb4,fun p hp => ?_⟩
            rcases List.mem_append.1 hp with h | h
            ·exact Hfn3.out p h
            ·rw [List.mem_singleton.1 h]; exact ⟨r1,r2,hqz⟩
           case measure => simp [intOf]; omega
      ·obtain rfl:l = ml:=by omega
       clear X3
       go_wp2
       go_roundw
       case rel => exact ⟨j + 1,nx3,by omega,by go_num,by rw [HNX.out]; exact Hpu3.out,HW3,Hfn3.out⟩
       case measure => simp [intOf]; omega
    ·obtain rfl:j = m:=by omega
     have hfull:puts (outsP ar t[k] now) = some next:=by
      have:=Hpu.out
      rwa [List.take_of_length_le (by have:=Hlm.out; omega)] at this
     have hle:=(puts_mem _ _ _ rfl hfull).2.2
     have hnx:=Lib.hid (ways_round Hw.out Hkb.out hfull)
     clear hfull
     go_wp2
     go_roundw
     case rel => exact ⟨k + 1,next,by omega,by go_num,hnx.out,HW.nxt,HW.bel,hle,Hfn.out⟩
     case measure => simp [intOf]; omega
  ·obtain rfl:k = t.size:=by omega
   have hC:=sortTip_own _ eg_C compCompare_any (A8) now.length c8 w.heap.size now wr hown rfl (by omega) hbel.size
   have hfin:waysF ar s (bl t) = some now:=by
    have:=Hw.out
    rwa [List.take_of_length_le (by rw [bl_len]; omega)] at this
   have Hfin:=Lib.hid hfin
   have hsl:(sortT now).length = now.length:=sortT_len now
   have Hsl:=Lib.hid hsl
   have hbl:=hbel
   clear hown hfin hsl hnow hbel
   generalize hlm:now.length = m at *
   have Hlm:=Lib.hid hlm
   clear hlm
   go_wp2_with fail
   refine hC.mono ?_
   rintro e w2 ⟨rfl,hR2,hb2⟩
   go_wp2
   refine bodyPost_ret (v:=.tuple #[.slice A8 m c8,.bool true]) (by simp [results,Tryz.results90,go_sem]) rfl ⟨hbl.trans hb2,?_⟩
   rw [Hfin.out]
   have e1:=Hlm.out
   exact ⟨A8,c8,by rw [e1],by omega,n2,by rw [e1]; exact hR2,fun h => by obtain ⟨g,hg1,hg2,_⟩:=n3 (by omega); exact ⟨g,hg1,hg2⟩⟩
end Go.Proofs.YtcondkihpmmnnaaGreatDoor
namespace Go.Proofs.YtcondkihpmmnnaaGreatDoor
open Go.RowKit Go.Sort
theorem word_none (m:Nat→Bool) (i:Nat) (h:∀ k,k < 64→m (64 * i + k) = false):word m i = 0 :=
 word_of 0 (by decide) m i (fun k hk => by rw [h k hk]; simp)
theorem sCells_none (m:Nat→Bool) (h:∀ b,m b = false):sCells m = #[.int .u64 0,.int .u64 0,.int .u64 0,.int .u64 0]:=by
 unfold sCells
 rw [word_none m 0 (fun _ _ => h _),word_none m 1 (fun _ _ => h _),word_none m 2 (fun _ _ => h _),word_none m 3 (fun _ _ => h _)]
 rfl
def byteVals (l:List Nat):List Value:=l.map fun b => .int .u8 ((b:Nat):Int)
theorem byte_cell {w:World} {B n:Nat} {A:Option Addr} {l:List Nat} (HR:Reads w B 1 A n (byteVals l)) (k:Nat) (hk:k < l.length) :
    ∃ ad,A = some ad∧w.cell? (ad.add k) = some (.int .u8 ((l[k]:Nat):Int)):=by
 have hn:=HR.1
 simp [byteVals] at hn
 obtain ⟨ad,e,_,hc⟩:=HR.2 (by omega)
 exact ⟨ad,e,hc k _ (by simp [byteVals,hk])⟩
set_option maxHeartbeats 1000000 in
theorem of_any (A:Option Addr) (n c B:Nat) (l:List Nat) (w:World) (HR0:Reads w B 1 A n (byteVals l)) (hB:B≤w.heap.size) (hl:∀ b∈l,b < 256) (hc:n≤c) (hm:c≤maxLen) :
    Calls Tryz.prog 19 #[.slice A n c] w (Gives (.agg #[.int .u64 ((word ((sOf l)) 0:Nat):Int),.int .u64 ((word ((sOf l)) 1:Nat):Int),.int .u64 ((word ((sOf l)) 2:Nat):Int),.int .u64 ((word ((sOf l)) 3:Nat):Int)]) w):=by
 have HR:=HR0.more hB
 clear HR0
 have hn:=HR.1
 simp [byteVals] at hn
 subst hn
 unfold maxLen at hm
 have HL:=Lib.hid hl
 clear hl
 go_enter Tryz.func19,Tryz.ntmps19
 go_wp2
 go_loopw [5,8] (fun _ i wr => ∃ k:Nat,k≤l.length∧i = .int .i64 k∧Blk wr (w.heap.size + 1) 58 (sCells (sOf (l.take k))) ∧
  Blk wr w.heap.size 58 #[.int .u64 0,.int .u64 0,.int .u64 0,.int .u64 0]∧Below w.heap.size w wr) (fun _ i _ => l.length - (intOf i).toNat)
 case atStart =>
  refine ⟨0,by omega,rfl,?_,?_,(((Below.refl _ _).alloc (Nat.le_refl _) _).alloc (by simp) _)⟩
  ·rw [sCells_none _ (fun _ => by simp [sOf])]
   have:=Blk.new (w.alloc (.cells #[.int .u64 0,.int .u64 0,.int .u64 0,.int .u64 0] 58)) 58 #[.int .u64 0,.int .u64 0,.int .u64 0,.int .u64 0]
   simp only [World.size_alloc] at this
   exact this
  ·exact (Blk.new w _ _).alloc _
 case round =>
  obtain ⟨k,hk,rfl,hb0,hb2,HB⟩:=hrel
  by_cases hlt:k < l.length
  ·obtain ⟨ad,rfl,hck⟩:=byte_cell (HR.below HB) k hlt
   have hlk:=HL.out _ (List.getElem_mem hlt)
   have e1:l.take (k + 1) = l.take k ++ [l[k]]:=List.take_succ_eq_append_getElem hlt
   generalize l[k] = b at *
   have c0:=hb0.cellAt (b / 64) (by omega)
   have f0:=hb0.frozen (b / 64)
   have E1:=Lib.hid e1
   clear e1
   go_wp2
   go_roundw
   case rel =>
    refine ⟨k + 1,by omega,by go_num,?_,(hb2.far (p:=⟨w.heap.size + 1,b / 64,none⟩) (by simp) _),(HB.setCell (p:=⟨w.heap.size + 1,b / 64,none⟩) (by simp) _)⟩
    rw [E1.out,sOf_snoc,← sCells_ins _ b hlk]
    exact hb0.set_ (b / 64) _
   case measure => simp [intOf]; omega
  ·have e1:l.take k = l:=List.take_of_length_le (by omega)
   rw [e1] at hb0
   obtain ⟨c0,c1,c2,c3⟩:=hb0.cells4
   have g0:=hb2.cell 0
   have g1:=hb2.cell 1
   have g2:=hb2.cell 2
   have g3:=hb2.cell 3
   have f0:=hb2.frozen 0
   have f1:=hb2.frozen 1
   have f2:=hb2.frozen 2
   have f3:=hb2.frozen 3
   simp at g0 g1 g2 g3
   go_wp2
   exact bodyPost_ret (v:=.agg #[.int .u64 ((word ((sOf l)) 0:Nat):Int),.int .u64 ((word ((sOf l)) 1:Nat):Int),.int .u64 ((word ((sOf l)) 2:Nat):Int),.int .u64 ((word ((sOf l)) 3:Nat):Int)]) (by simp [results,Tryz.results19,go_sem,g0,g1,g2,g3]) rfl
    ⟨rfl,(((HB.setCell (p:=⟨w.heap.size,0,none⟩) (by simp) _).setCell (p:=⟨w.heap.size,1,none⟩) (by simp) _).setCell (p:=⟨w.heap.size,2,none⟩) (by simp) _).setCell (p:=⟨w.heap.size,3,none⟩) (by simp) _⟩
end Go.Proofs.YtcondkihpmmnnaaGreatDoor
namespace Go.Proofs.YtcondkihpmmnnaaGreatDoor
open Go.RowKit Go.Sort
theorem ofInt_i64 (a:Nat) (ha:a < 9223372036854775808):(BitVec.ofInt 64 (a:Int)).toNat = a:=by
 rw [BitVec.ofInt_natCast,BitVec.toNat_ofNat]; exact Nat.mod_eq_of_lt (by omega)
theorem i64_and_nat (a b:Nat) (ha:a < 9223372036854775808) (hb:b < 9223372036854775808):bits .and .i64 (a:Int) (b:Int) = ((a &&& b:Nat):Int):=by
 have hx:a &&& b < 2 ^ 63:=Nat.and_lt_two_pow _ (by omega)
 show IntKind.i64.wrap ((BitVec.ofInt 64 (a:Int) &&& BitVec.ofInt 64 (b:Int)).toNat:Int) = _
 rw [BitVec.toNat_and,ofInt_i64 a ha,ofInt_i64 b hb,IntKind.wrap_i64]
 omega
theorem u64_in (n:Nat) (h:n < 18446744073709551616):IntKind.u64.wrap (n:Int) = (n:Int):=by
 rw [IntKind.wrap_u64]; omega
theorem u64_mask (a m:Nat) (M:Int) (ha:a < 18446744073709551616) (hm:M = (m:Int)) (h:m < 18446744073709551616):bits .and .u64 (a:Int) M = ((a &&& m:Nat):Int):=by
 rw [hm,u64_and_nat a m ha h]
theorem ones_steps (x:Nat) (hx:x < 18446744073709551616):∃ a1 a2 a3 b1 b2 b3:Nat,
    IntKind.u64.wrap (bits .and .u64 ((x:Int) / 2) 6148914691236517205 + bits .and .u64 (x:Int) 6148914691236517205) = (a1:Int) ∧
    IntKind.u64.wrap (bits .and .u64 ((a1:Int) / 4) 3689348814741910323 + bits .and .u64 (a1:Int) 3689348814741910323) = (a2:Int) ∧
    bits .and .u64 (IntKind.u64.wrap ((a2:Int) / 16 + (a2:Int))) 1085102592571150095 = (a3:Int) ∧
    IntKind.u64.wrap ((a3:Int) + (a3:Int) / 256) = (b1:Int)∧IntKind.u64.wrap ((b1:Int) + (b1:Int) / 65536) = (b2:Int)∧IntKind.u64.wrap ((b2:Int) + (b2:Int) / 4294967296) = (b3:Int) ∧
    b3 < 9223372036854775808∧bits .and .i64 (b3:Int) 127 = ((onesB 64 x:Nat):Int):=by
 have e1:st1 8 x≤6148914691236517205 + 6148914691236517205:=by
  unfold st1; rw [mask_85]; exact Nat.add_le_add Nat.and_le_right Nat.and_le_right
 have e2:st2 8 (st1 8 x)≤3689348814741910323 + 3689348814741910323:=by
  unfold st2; rw [mask_51]; exact Nat.add_le_add Nat.and_le_right Nat.and_le_right
 have e3:st3 8 (st2 8 (st1 8 x))≤1085102592571150095:=by
  unfold st3; rw [mask_15]; exact Nat.and_le_right
 have hw:=ones_whole x hx
 have hl:=onesB_le 64 x
 refine ⟨st1 8 x,st2 8 (st1 8 x),st3 8 (st2 8 (st1 8 x)),st3 8 (st2 8 (st1 8 x)) + st3 8 (st2 8 (st1 8 x)) / 256,(st3 8 (st2 8 (st1 8 x)) + st3 8 (st2 8 (st1 8 x)) / 256) + (st3 8 (st2 8 (st1 8 x)) + st3 8 (st2 8 (st1 8 x)) / 256) / 65536,fold7 (st3 8 (st2 8 (st1 8 x))),?_,?_,?_,?_,?_,?_,?_,?_⟩
 ·rw [show (x:Int) / 2 = ((x / 2:Nat):Int) by omega,u64_mask _ 6148914691236517205 6148914691236517205 (by omega) rfl (by decide),u64_mask _ 6148914691236517205 6148914691236517205 hx rfl (by decide),← Int.natCast_add]
  unfold st1 at e1 ⊢
  rw [mask_85] at e1 ⊢
  exact u64_in _ (by omega)
 ·generalize st1 8 x = a at *
  rw [show (a:Int) / 4 = ((a / 4:Nat):Int) by omega,u64_mask _ 3689348814741910323 3689348814741910323 (by omega) rfl (by decide),u64_mask _ 3689348814741910323 3689348814741910323 (by omega) rfl (by decide),← Int.natCast_add]
  unfold st2 at e2 ⊢
  rw [mask_51] at e2 ⊢
  exact u64_in _ (by omega)
 ·generalize st2 8 (st1 8 x) = a at *
  rw [show (a:Int) / 16 + (a:Int) = ((a / 16 + a:Nat):Int) by omega,u64_in _ (by omega),u64_mask _ 1085102592571150095 1085102592571150095 (by omega) rfl (by decide)]
  unfold st3
  rw [mask_15]
 ·generalize st3 8 (st2 8 (st1 8 x)) = a at *
  rw [IntKind.wrap_u64]; omega
 ·generalize st3 8 (st2 8 (st1 8 x)) = a at *
  generalize hb:a + a / 256 = b at *
  rw [IntKind.wrap_u64]; omega
 ·unfold fold7
  generalize st3 8 (st2 8 (st1 8 x)) = a at *
  rw [IntKind.wrap_u64]; omega
 ·unfold fold7
  generalize st3 8 (st2 8 (st1 8 x)) = a at *
  omega
 ·have hb:fold7 (st3 8 (st2 8 (st1 8 x))) < 9223372036854775808:=by
    unfold fold7
    generalize st3 8 (st2 8 (st1 8 x)) = a at *
    omega
  rw [show (127:Int) = ((127:Nat):Int) from rfl,i64_and_nat _ _ hb (by decide),show (127:Nat) = 2 ^ 7 - 1 by decide,Nat.and_two_pow_sub_one_eq_mod]
  generalize fold7 (st3 8 (st2 8 (st1 8 x))) = f at *
  omega
set_option maxHeartbeats 1000000 in
theorem ones64_any (x:Nat) (w:World) (hx:x < 18446744073709551616) :
    Calls Tryz.prog 68 #[.int .u64 x] w (Gives (.int .i64 ((onesB 64 x:Nat):Int)) w):=by
 obtain ⟨a1,a2,a3,b1,b2,b3,h1,h2,h3,h4,h5,h6,h7,h8⟩:=ones_steps x hx
 go_enter Tryz.func68,Tryz.ntmps68
 go_wp2
 go_ret
 refine ⟨?_,Below.refl _ _⟩
 rfl
def sSize (m:Nat→Bool):Nat:=cnt m 256
theorem cnt_word (m:Nat→Bool) (k:Nat):cnt m (64 * (k + 1)) = cnt m (64 * k) + onesB 64 (word m k):=by
 rw [onesB_word,show 64 * (k + 1) = 64 * k + 64 by omega,cnt_add]
theorem set_index0 (m:Nat→Bool) (W:World):(Instr.index 58 (.agg #[.int .u64 ((word m 0:Nat):Int),.int .u64 ((word m 1:Nat):Int),.int .u64 ((word m 2:Nat):Int),.int .u64 ((word m 3:Nat):Int)]) (.int .i64 0)).run Tryz.prog W = .ok (.int .u64 ((word m 0:Nat):Int)) W:=by kernel_rfl
theorem set_index1 (m:Nat→Bool) (W:World):(Instr.index 58 (.agg #[.int .u64 ((word m 0:Nat):Int),.int .u64 ((word m 1:Nat):Int),.int .u64 ((word m 2:Nat):Int),.int .u64 ((word m 3:Nat):Int)]) (.int .i64 1)).run Tryz.prog W = .ok (.int .u64 ((word m 1:Nat):Int)) W:=by kernel_rfl
theorem set_index2 (m:Nat→Bool) (W:World):(Instr.index 58 (.agg #[.int .u64 ((word m 0:Nat):Int),.int .u64 ((word m 1:Nat):Int),.int .u64 ((word m 2:Nat):Int),.int .u64 ((word m 3:Nat):Int)]) (.int .i64 2)).run Tryz.prog W = .ok (.int .u64 ((word m 2:Nat):Int)) W:=by kernel_rfl
theorem set_index3 (m:Nat→Bool) (W:World):(Instr.index 58 (.agg #[.int .u64 ((word m 0:Nat):Int),.int .u64 ((word m 1:Nat):Int),.int .u64 ((word m 2:Nat):Int),.int .u64 ((word m 3:Nat):Int)]) (.int .i64 3)).run Tryz.prog W = .ok (.int .u64 ((word m 3:Nat):Int)) W:=by kernel_rfl
theorem set_index (m:Nat→Bool) (k:Nat) (hk:k < 4) (W:World):(Instr.index 58 (.agg #[.int .u64 ((word m 0:Nat):Int),.int .u64 ((word m 1:Nat):Int),.int .u64 ((word m 2:Nat):Int),.int .u64 ((word m 3:Nat):Int)]) (.int .i64 (k:Int))).run Tryz.prog W = .ok (.int .u64 ((word m k:Nat):Int)) W:=by
 match k,hk with
 | 0,_ => exact set_index0 m W
 | 1,_ => exact set_index1 m W
 | 2,_ => exact set_index2 m W
 | 3,_ => exact set_index3 m W
set_option maxHeartbeats 1000000 in
theorem size_any (m:Nat→Bool) (w:World) :
    Calls Tryz.prog 32 #[.agg #[.int .u64 ((word m 0:Nat):Int),.int .u64 ((word m 1:Nat):Int),.int .u64 ((word m 2:Nat):Int),.int .u64 ((word m 3:Nat):Int)]] w (Gives (.int .i64 ((sSize m:Nat):Int)) w):=by
 have hb:=new_blk w m 58
 obtain ⟨c0,c1,c2,c3⟩:=hb.cells4
 go_enter Tryz.func32,Tryz.ntmps32
 go_wp2
 go_loopw [3,7] (fun n i wr => ∃ k:Nat,k≤4∧i = .int .i64 k∧n = .int .i64 ((cnt m (64 * k):Nat):Int)∧Below w.heap.size w wr) (fun _ i _ => 4 - (intOf i).toNat)
 case atStart => exact ⟨0,by omega,rfl,rfl,(Below.refl _ _).alloc (Nat.le_refl _) _⟩
 case round =>
  obtain ⟨k,hk,rfl,rfl,HB⟩:=hrel
  by_cases hlt:k < 4
  ·have hidx:=set_index m k hlt
   have E:=Lib.hid (cnt_word m k)
   have hl:=cnt_le m (64 * k)
   have hl2:=onesB_le 64 (word m k)
   have HC:=fun W => ones64_any (word m k) W (word_lt m k)
   generalize onesB 64 (word m k) = c at *
   generalize cnt m (64 * k) = d at *
   go_wp2_with (go_at_call 68; refine (HC _).mono ?_; rintro e w1 ⟨rfl,HB1⟩; have L1:=below_then HB HB1)
   go_roundw
   case rel => exact ⟨k + 1,by omega,by go_num,by rw [E.out]; go_num,L1⟩
   case measure => simp [intOf]; omega
  ·have hk4:k = 4:=by omega
   subst hk4
   go_wp2
   go_ret
   exact ⟨rfl,HB⟩
end Go.Proofs.YtcondkihpmmnnaaGreatDoor
