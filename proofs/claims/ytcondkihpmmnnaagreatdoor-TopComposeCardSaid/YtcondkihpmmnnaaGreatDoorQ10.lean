/- Lemmas, part 10 of 50. No condition. -/
import Derived.Test.YtcondkihpmmnnaaGreatDoorQ07
import Derived.Test.YtcondkihpmmnnaaGreatDoorQ09
import Derived.Test.YtcondkihpmmnnaaGreatDoorQ04
import Derived.Test.YtcondkihpmmnnaaGreatDoorQ05
import Derived.Test.YtcondkihpmmnnaaGreatDoorQ03
namespace Go.Proofs.YtcondkihpmmnnaaGreatDoor
open Go.RowKit Go.Sort
def fs0:Fs:=⟨0,[],[],[]⟩
def sortF (t:Fs):Fs:=⟨t.n,ordT t.starts,ordT t.ends,ordA t.arcs⟩
def FstNew (B:Nat) (v:Value):Prop :=
 ∃ (N:Int) (A1:Option Addr) (n1 c1:Nat) (A2:Option Addr) (n2 c2:Nat) (A3:Option Addr) (n3 c3:Nat),v = .agg #[.int .i64 N,.slice A1 n1 c1,.slice A2 n2 c2,.slice A3 n3 c3]∧Fresh B A1 n1∧Fresh B A2 n2∧Fresh B A3 n3
theorem FstNew.less {B B':Nat} {v:Value} (h:FstNew B v) (hb:B'≤B):FstNew B' v:=by
 obtain ⟨N,A1,n1,c1,A2,n2,c2,A3,n3,c3,rfl,f1,f2,f3⟩:=h
 exact ⟨N,A1,n1,c1,A2,n2,c2,A3,n3,c3,rfl,f1.less hb,f2.less hb,f3.less hb⟩
theorem FstAt.fresh {w w':World} {B B0:Nat} {t:Fs} {v:Value} (h:FstAt w B t v) (hf:FstNew B0 v) (hk:∀ p:Addr,B0≤p.block→p.block < B→w'.cell? p = w.cell? p):FstAt w' B t v:=by
 obtain ⟨A1,c1,A2,c2,A3,c3,hv,h1,h2,h3,h4,h5,h6,h7,h8,R1,W1,R2,W2,R3,W3⟩:=h
 obtain ⟨N,A1',n1,c1',A2',n2,c2',A3',n3,c3',hv',f1,f2,f3⟩:=hf
 rw [hv] at hv'
 simp only [Value.agg.injEq,Array.mk.injEq,List.cons.injEq,Value.slice.injEq,and_true] at hv'
 obtain ⟨_,⟨rfl,rfl,_⟩,⟨rfl,rfl,_⟩,rfl,rfl,_⟩:=hv'
 exact ⟨A1,c1,A2,c2,A3,c3,hv,h1,h2,h3,h4,h5,h6,h7,h8,R1.fresh f1 hk,W1,R2.fresh f2 hk,W2,R3.fresh f3 hk,W3⟩
theorem FstAt.freshSet {w:World} {B B0:Nat} {t:Fs} {v:Value} (h:FstAt w B t v) (hf:FstNew B0 v) {p:Addr} (hp:p.block < B0) (u:Value):FstAt (w.setCell p u) B t v :=
 h.fresh hf fun q hq _ => World.cell?_setCell_other w p q u (fun e => by subst e; omega)
def GF (t:Fs) (r:Int) (w:World) (e:Ending) (w':World):Prop :=
 ∃ v,e = .returned (.tuple #[v,.int .i64 r])∧FstAt w' w'.heap.size t v∧FstNew w.heap.size v∧Below w.heap.size w w'
theorem fst0_new (B:Nat):FstNew B (.agg #[.int .i64 0,.slice none 0 0,.slice none 0 0,.slice none 0 0]) :=
 ⟨_,none,0,0,none,0,0,none,0,0,rfl,fun h => absurd h (Nat.lt_irrefl 0),fun h => absurd h (Nat.lt_irrefl 0),fun h => absurd h (Nat.lt_irrefl 0)⟩
theorem fst0_at (w:World) (B:Nat):FstAt w B fs0 (.agg #[.int .i64 0,.slice none 0 0,.slice none 0 0,.slice none 0 0]) :=
 ⟨none,0,none,0,none,0,rfl,Nat.le_refl _,Nat.le_refl _,Nat.le_refl _,Nat.zero_le _,Nat.zero_le _,Nat.zero_le _,by decide,by decide,⟨rfl,fun h => absurd h (Nat.lt_irrefl 0)⟩,fun _ h => (List.not_mem_nil h).elim,⟨rfl,fun h => absurd h (Nat.lt_irrefl 0)⟩,fun _ h => (List.not_mem_nil h).elim,⟨rfl,fun h => absurd h (Nat.lt_irrefl 0)⟩,fun _ h => (List.not_mem_nil h).elim⟩
theorem below_set4 {B:Nat} {w w':World} (h:Below B w w') {g:Nat} (hg:B≤g) (a b c d:Value):Below B w ((((w'.setCell ⟨g,0,none⟩ a).setCell ⟨g,1,none⟩ b).setCell ⟨g,2,none⟩ c).setCell ⟨g,3,none⟩ d) :=
 (((h.setCell (p:=⟨g,0,none⟩) hg _).setCell (p:=⟨g,1,none⟩) hg _).setCell (p:=⟨g,2,none⟩) hg _).setCell (p:=⟨g,3,none⟩) hg _
theorem Reads.freshSet4 {B B0 size n:Nat} {A:Option Addr} {xs:List Value} {w:World} (h:Reads w B size A n xs) (hf:Fresh B0 A n) {g:Nat} (hg:g < B0) (a b c d:Value):Reads ((((w.setCell ⟨g,0,none⟩ a).setCell ⟨g,1,none⟩ b).setCell ⟨g,2,none⟩ c).setCell ⟨g,3,none⟩ d) B size A n xs :=
 (((h.freshSet hf (p:=⟨g,0,none⟩) hg _).freshSet hf (p:=⟨g,1,none⟩) hg _).freshSet hf (p:=⟨g,2,none⟩) hg _).freshSet hf (p:=⟨g,3,none⟩) hg _
theorem fck_sizes {t:Fs} (h:fckB t = true):t.starts.length≤1024∧t.ends.length≤1024∧t.arcs.length≤16384:=by
 unfold fckB tipsB at h
 simp only [Bool.and_eq_true,decide_eq_true_eq] at h
 exact ⟨h.1.1.2.1,h.1.2.1,h.1.1.1.2⟩
set_option maxRecDepth 100000 in
set_option maxHeartbeats 8000000 in
theorem fstSort_any (t:Fs) (v:Value) (B:Nat) (w:World) (HS:FstAt w B t v) (hB:B≤w.heap.size) :
    Calls Tryz.prog 21 #[v] w (GF (if fckB t = true then sortF t else fs0) (okE (fckB t)) w):=by
 have HS':=HS.more hB
 clear HS
 have hck:∀ W,Below w.heap.size w W→Calls Tryz.prog 20 #[v] W (Gives (.int .i64 (okE (fckB t))) W):=fun W hb => fstCheck_any t v w.heap.size W (HS'.below hb) hb.size
 obtain ⟨A1,c1,A2,c2,A3,c3,rfl,h1,h2,h3,h4,h5,h6,h7,h8,R1,W1,R2,W2,R3,W3⟩:=HS'
 rcases hf:fckB t with _ | _
 ·rw [hf] at hck
  rw [if_neg (by decide)]
  clear R1 R2 R3 W1 W2 W3 hf
  replace hck:∀ W,Below w.heap.size w W→Calls Tryz.prog 20 #[.agg #[.int .i64 t.n,.slice A1 t.starts.length c1,.slice A2 t.ends.length c2,.slice A3 t.arcs.length c3]] W (Gives (.int .i64 1) W):=hck
  show Calls Tryz.prog 21 _ w (GF fs0 1 w)
  generalize t.n = N at *
  generalize t.starts.length = n1 at *
  generalize t.ends.length = n2 at *
  generalize t.arcs.length = n3 at *
  go_enter Tryz.func21,Tryz.ntmps21
  go_wp2_with fail
  refine (hck _ (((Below.refl _ w).alloc (Nat.le_refl _) _).alloc (by simp) _)).mono ?_
  rintro e w1 ⟨rfl,HB1⟩
  have K:=(Blk.new (w.alloc (.cells #[.int .i64 N,.slice A1 n1 c1,.slice A2 n2 c2,.slice A3 n3 c3] 32)) 32 #[.int .i64 0,.slice none 0 0,.slice none 0 0,.slice none 0 0]).below HB1 (by simp)
  rw [World.size_alloc] at K
  have L1:=(((Below.refl _ w).alloc (Nat.le_refl _) (.cells #[.int .i64 N,.slice A1 n1 c1,.slice A2 n2 c2,.slice A3 n3 c3] 32)).alloc (by simp) (.cells #[.int .i64 0,.slice none 0 0,.slice none 0 0,.slice none 0 0] 32)).trans (HB1.mono (by simp; omega))
  have k0:=K.cell 0
  have k1:=K.cell 1
  have k2:=K.cell 2
  have k3:=K.cell 3
  have f0:=K.frozen 0
  have f1:=K.frozen 1
  have f2:=K.frozen 2
  have f3:=K.frozen 3
  clear K
  go_wp2
  refine bodyPost_ret (v:=.tuple #[.agg #[.int .i64 0,.slice none 0 0,.slice none 0 0,.slice none 0 0],.int .i64 1]) (by simp [results,Tryz.results21,go_sem,k0,k1,k2,k3]) rfl ⟨_,rfl,fst0_at _ _,fst0_new _,below_set4 L1 (by omega) _ _ _ _⟩
 ·rw [hf] at hck
  rw [if_pos rfl]
  show Calls Tryz.prog 21 _ w (GF (sortF t) 0 w)
  replace hck:∀ W,Below w.heap.size w W→Calls Tryz.prog 20 #[.agg #[.int .i64 t.n,.slice A1 t.starts.length c1,.slice A2 t.ends.length c2,.slice A3 t.arcs.length c3]] W (Gives (.int .i64 0) W):=hck
  obtain ⟨z1,z2,z3⟩:=fck_sizes hf
  have T1:∀ W,Below w.heap.size w W→Calls Tryz.prog 50 #[.slice A1 t.starts.length c1,.func (.func 51) #[] #[]] W (GTips (ordT t.starts) W):=fun W hb => onceT_any A1 _ c1 _ t.starts W (R1.below hb) hb.size (by omega)
  have T2:∀ W,Below w.heap.size w W→Calls Tryz.prog 50 #[.slice A2 t.ends.length c2,.func (.func 51) #[] #[]] W (GTips (ordT t.ends) W):=fun W hb => onceT_any A2 _ c2 _ t.ends W (R2.below hb) hb.size (by omega)
  have T3:∀ W,Below w.heap.size w W→Calls Tryz.prog 52 #[.slice A3 t.arcs.length c3,.func (.func 53) #[] #[]] W (GArcs (ordA t.arcs) W):=fun W hb => onceA_any A3 _ c3 _ t.arcs W (R3.below hb) hb.size (by omega)
  have HWs:=Lib.hid (show (∀ x∈ordT t.starts,TpW x)∧(∀ x∈ordT t.ends,TpW x)∧(∀ x∈ordA t.arcs,ArW x) from ⟨fun x hx => W1 x ((ordT_mem _ _).1 hx),fun x hx => W2 x ((ordT_mem _ _).1 hx),fun x hx => W3 x ((ordA_mem _ _).1 hx)⟩)
  have Hsf:=Lib.hid (show (sortF t).n = t.n∧(sortF t).starts = ordT t.starts∧(sortF t).ends = ordT t.ends∧(sortF t).arcs = ordA t.arcs from ⟨rfl,rfl,rfl,rfl⟩)
  clear R1 R2 R3 W1 W2 W3 hf
  generalize sortF t = st at *
  generalize ordT t.starts = l1 at *
  generalize ordT t.ends = l2 at *
  generalize ordA t.arcs = l3 at *
  generalize t.n = N at *
  generalize t.starts.length = n1 at *
  generalize t.ends.length = n2 at *
  generalize t.arcs.length = n3 at *
  go_enter Tryz.func21,Tryz.ntmps21
  go_wp2_with fail
  refine (hck _ (((Below.refl _ w).alloc (Nat.le_refl _) _).alloc (by simp) _)).mono ?_
  rintro e w1 ⟨rfl,HB1⟩
  have K:=(Blk.new (w.alloc (.cells #[.int .i64 N,.slice A1 n1 c1,.slice A2 n2 c2,.slice A3 n3 c3] 32)) 32 #[.int .i64 0,.slice none 0 0,.slice none 0 0,.slice none 0 0]).below HB1 (by simp)
  have J:=((Blk.new w 32 #[.int .i64 N,.slice A1 n1 c1,.slice A2 n2 c2,.slice A3 n3 c3]).alloc (.cells #[.int .i64 0,.slice none 0 0,.slice none 0 0,.slice none 0 0] 32)).below HB1 (by simp; omega)
  rw [World.size_alloc] at K
  have L1:=(((Below.refl _ w).alloc (Nat.le_refl _) (.cells #[.int .i64 N,.slice A1 n1 c1,.slice A2 n2 c2,.slice A3 n3 c3] 32)).alloc (by simp) (.cells #[.int .i64 0,.slice none 0 0,.slice none 0 0,.slice none 0 0] 32)).trans (HB1.mono (by simp; omega))
  have hz1:w.heap.size + 1 < w1.heap.size:=by have:=HB1.size; simp at this; omega
  clear HB1 hck
  have j0:=cell_regrown (J.cell 0)
  have j1:=cell_regrown (J.cell 1)
  have j2:=cell_regrown (J.cell 2)
  have j3:=cell_regrown (J.cell 3)
  clear J
  go_wp2
  refine wp_region_hold_below 11 [0,1,2,3,5,6,8,9] [4,7,10] (by kernel_rfl) (by kernel_rfl) rfl (by kernel_rfl) ?_
  simp only [pickOps,List.getElem?_cons_zero,List.getElem?_cons_succ,List.drop_succ_cons,List.drop_zero]
  repeat (go_big_quiet_step (fail))
  refine wpQuiet_nil ?_
  clear j0 j1 j2 j3
  refine wpForce_step rfl (fun KK hKK => ?_)
  go_simp
  refine (T1 _ L1.drew).mono ?_
  rintro e w2 ⟨B1,d1,rfl,Q1,u1,m1,F1,HB2⟩
  have L2:Below w1.heap.size w1 w2:=((Below.refl _ w1).drew).trans HB2
  refine hKK _ _ (regrown_of_below L2) ?_
  clear hKK KK
  refine wpForce_step rfl (fun KK hKK => ?_)
  go_simp
  refine (T2 _ (L1.trans (L2.mono L1.size))).mono ?_
  rintro e w3 ⟨B2,d2,rfl,Q2,u2,m2,F2,HB3⟩
  have L3:Below w1.heap.size w1 w3:=L2.trans (HB3.mono L2.size)
  refine hKK _ _ (regrown_of_below L3) ?_
  clear hKK KK
  refine wpForce_step rfl (fun KK hKK => ?_)
  go_simp
  refine (T3 _ (L1.trans (L3.mono L1.size))).mono ?_
  rintro e w4 ⟨B3,d3,rfl,Q3,u3,m3,F3,HB4⟩
  have L4:Below w1.heap.size w1 w4:=L3.trans (HB4.mono L3.size)
  refine hKK _ _ (regrown_of_below L4) ?_
  clear hKK KK
  refine wpForce_nil ?_
  have K4:=K.below L4 (by omega)
  have k0:=K4.cell 0
  have k1:=K4.cell 1
  have k2:=K4.cell 2
  have k3:=K4.cell 3
  have f0:=K4.frozen 0
  have f1:=K4.frozen 1
  have f2:=K4.frozen 2
  have f3:=K4.frozen 3
  have M1:=((Q1.below HB3).below ((HB4).mono HB3.size)).more (Nat.le_trans HB3.size HB4.size)
  have M2:=(Q2.below HB4).more HB4.size
  have F1':=F1.less (show w1.heap.size≤_ from Nat.le_refl _)
  have F2':=F2.less (show w1.heap.size≤_ from L2.size)
  have F3':=F3.less (show w1.heap.size≤_ from L3.size)
  have L5:=L1.trans (L4.mono (Nat.le_trans (Nat.le_refl _) L1.size))
  have FN:=Lib.hid (show Fresh w.heap.size B1 l1.length∧Fresh w.heap.size B2 l2.length∧Fresh w.heap.size B3 l3.length from ⟨F1'.less (by omega),F2'.less (by omega),F3'.less (by omega)⟩)
  clear K K4 T1 T2 T3 HB2 HB3 HB4 L1 L2 L3 Q1 Q2 F1 F2 F3
  have E1:=(M1.freshSet4 F1' (show w.heap.size + 1 < w1.heap.size from hz1) (.int .i64 N) (.slice B1 l1.length d1) (.slice B2 l2.length d2) (.slice B3 l3.length d3))
  have E2:=(M2.freshSet4 F2' (show w.heap.size + 1 < w1.heap.size from hz1) (.int .i64 N) (.slice B1 l1.length d1) (.slice B2 l2.length d2) (.slice B3 l3.length d3))
  have E3:=(Q3.freshSet4 F3' (show w.heap.size + 1 < w1.heap.size from hz1) (.int .i64 N) (.slice B1 l1.length d1) (.slice B2 l2.length d2) (.slice B3 l3.length d3))
  have E1':=Lib.hid E1
  have E2':=Lib.hid E2
  have E3':=Lib.hid E3
  clear E1 E2 E3 M1 M2 Q3 F1' F2' F3'
  go_wp2
  refine NoPanic.normal ?_
  go_wp2
  refine bodyPost_ret (v:=.tuple #[.agg #[.int .i64 N,.slice B1 l1.length d1,.slice B2 l2.length d2,.slice B3 l3.length d3],.int .i64 0]) (by simp [results,Tryz.results21,go_sem,k0,k1,k2,k3]) rfl ⟨_,rfl,?_,⟨_,B1,_,d1,B2,_,d2,B3,_,d3,rfl,FN.out.1,FN.out.2.1,FN.out.2.2⟩,below_set4 L5 (by omega) _ _ _ _⟩
  obtain ⟨s1,s2,s3,s4⟩:=Hsf.out
  obtain ⟨g1,g2,g3⟩:=HWs.out
  refine ⟨B1,d1,B2,d2,B3,d3,by rw [s1,s2,s3,s4],by rw [s2]; exact u1,by rw [s3]; exact u2,by rw [s4]; exact u3,m1,m2,m3,by rw [s1]; exact h7,by rw [s1]; exact h8,?_,by rw [s2]; exact g1,?_,by rw [s3]; exact g2,?_,by rw [s4]; exact g3⟩
  ·rw [s2]; simpa using E1'.out
  ·rw [s3]; simpa using E2'.out
  ·rw [s4]; simpa using E3'.out
end Go.Proofs.YtcondkihpmmnnaaGreatDoor
namespace Go.Proofs.YtcondkihpmmnnaaGreatDoor
open Go.RowKit Go.Sort
def arcAt (q:SeqM) (s b:Nat):List Ar:=if q.nx s b < 0 then [] else [⟨(s:Int),q.nx s b,St.ofM (sOf [b]),q.os s b,false⟩]
def arcsJ (q:SeqM) (s:Nat):Nat→List Ar
 | 0 => []
 | j + 1 => arcsJ q s j ++ arcAt q s j
def arcsS (q:SeqM):Nat→List Ar
 | 0 => []
 | s + 1 => arcsS q s ++ arcsJ q s 256
def endsS (q:SeqM):Nat→List Tp
 | 0 => []
 | s + 1 => endsS q s ++ if q.en s = true then [⟨(s:Int),q.tl s⟩] else []
def startsS (q:SeqM):List Tp:=if q.next.length = 0 then [] else [⟨0,q.front⟩]
def back0 (q:SeqM):Fs:=⟨(q.next.length:Int),startsS q,endsS q q.next.length,arcsS q q.next.length⟩
theorem arcsJ_mem (q:SeqM) (s:Nat) (e:Ar):∀ j,e∈arcsJ q s j↔∃ b,b < j∧0≤q.nx s b∧e = ⟨(s:Int),q.nx s b,St.ofM (sOf [b]),q.os s b,false⟩
 | 0 => ⟨fun h => (List.not_mem_nil h).elim,fun ⟨b,hb,_⟩ => absurd hb (Nat.not_lt_zero _)⟩
 | j + 1 => by
  show e∈arcsJ q s j ++ arcAt q s j↔_
  rw [List.mem_append,arcsJ_mem q s e j]
  unfold arcAt
  constructor
  ·rintro (⟨b,hb,h⟩ | h)
   ·exact ⟨b,by omega,h⟩
   ·split at h
    ·cases h
    ·rename_i h0
     exact ⟨j,by omega,by omega,List.mem_singleton.1 h⟩
  ·rintro ⟨b,hb,h0,rfl⟩
   by_cases e:b = j
   ·subst e
    right
    rw [if_neg (by omega)]
    exact List.mem_singleton.2 rfl
   ·exact .inl ⟨b,by omega,h0,rfl⟩
theorem arcsS_mem (q:SeqM) (e:Ar):∀ n,e∈arcsS q n↔∃ s b,s < n∧b < 256∧0≤q.nx s b∧e = ⟨(s:Int),q.nx s b,St.ofM (sOf [b]),q.os s b,false⟩
 | 0 => ⟨fun h => (List.not_mem_nil h).elim,fun ⟨s,b,hs,_⟩ => absurd hs (Nat.not_lt_zero _)⟩
 | n + 1 => by
  show e∈arcsS q n ++ arcsJ q n 256↔_
  rw [List.mem_append,arcsS_mem q e n,arcsJ_mem]
  constructor
  ·rintro (⟨s,b,hs,h⟩ | ⟨b,hb,h⟩)
   ·exact ⟨s,b,by omega,h⟩
   ·exact ⟨n,b,by omega,hb,h⟩
  ·rintro ⟨s,b,hs,hb,h⟩
   by_cases e:s = n
   ·subst e; exact .inr ⟨b,hb,h⟩
   ·exact .inl ⟨s,b,by omega,hb,h⟩
theorem endsS_mem (q:SeqM) (x:Tp):∀ n,x∈endsS q n↔∃ s,s < n∧q.en s = true∧x = ⟨(s:Int),q.tl s⟩
 | 0 => ⟨fun h => (List.not_mem_nil h).elim,fun ⟨s,hs,_⟩ => absurd hs (Nat.not_lt_zero _)⟩
 | n + 1 => by
  show x∈endsS q n ++ (if q.en n = true then [⟨(n:Int),q.tl n⟩] else [])↔_
  rw [List.mem_append,endsS_mem q x n]
  constructor
  ·rintro (⟨s,hs,h⟩ | h)
   ·exact ⟨s,by omega,h⟩
   ·split at h
    ·rename_i h0; exact ⟨n,by omega,h0,List.mem_singleton.1 h⟩
    ·cases h
  ·rintro ⟨s,hs,h0,rfl⟩
   by_cases e:s = n
   ·subst e; right; rw [if_pos h0]; exact List.mem_singleton.2 rfl
   ·exact .inl ⟨s,by omega,h0,rfl⟩
theorem endsS_len (q:SeqM):∀ s,(endsS q s).length≤s
 | 0 => Nat.le_refl _
 | s + 1 => by
  show (endsS q s ++ (if q.en s = true then [(⟨(s:Int),q.tl s⟩:Tp)] else [])).length≤s + 1
  have:=endsS_len q s
  rw [List.length_append]
  split
  ·simp; omega
  ·simp; omega
theorem backs_of (q:SeqM):Backs q (sortF (back0 q)):=by
 refine ⟨rfl,fun x => ?_,fun x => ?_,fun e => ?_⟩
 ·show x∈ordT (startsS q)↔_
  rw [ordT_mem]
  unfold startsS
  split
  ·rename_i h; constructor
   ·intro h2; cases h2
   ·intro h2; omega
  ·rename_i h; rw [List.mem_singleton]; constructor
   ·intro h2; exact ⟨by omega,h2⟩
   ·intro h2; exact h2.2
 ·show x∈ordT (endsS q q.next.length)↔_
  rw [ordT_mem]; exact endsS_mem q x _
 ·show e∈ordA (arcsS q q.next.length)↔_
  rw [ordA_mem]; exact arcsS_mem q e _
theorem own_setCell {w:World} {base:Nat} {e:TypeId} {size n:Nat} {v:Value} {xs:List Value} (h:w.ownsRow base e size v n xs) {p:Addr} (hp:v.ownBlock≠some p.block) (u:Value):(w.setCell p u).ownsRow base e size v n xs :=
 h.kept (row:=some p.block) ⟨rfl,rfl,rfl,by simp,fun k hk hne => Below.heap_setCell w p u k (fun e => hne (by rw [e]))⟩ (.inr hp)
theorem own_lt {w:World} {base:Nat} {e:TypeId} {size n:Nat} {v:Value} {xs:List Value} (h:w.ownsRow base e size v n xs):∀ g,v.ownBlock = some g→base≤g∧g < w.heap.size:=by
 intro g hg
 rcases h.2 with ⟨rfl,_⟩ | ⟨g',cap,cur,rfl,hb,hh,_⟩
 ·cases hg
 ·have:g' = g:=Option.some.inj hg
  subst this
  refine ⟨hb,?_⟩
  rcases Nat.lt_or_ge g' w.heap.size with h | h
  ·exact h
  ·rw [Array.getElem?_eq_none h] at hh; cases hh
theorem own_below {w w':World} {base:Nat} {e:TypeId} {size n:Nat} {v:Value} {xs:List Value} (h:w.ownsRow base e size v n xs) (hb:Below w.heap.size w w'):w'.ownsRow base e size v n xs:=by
 refine ⟨h.1,?_⟩
 rcases h.2 with h0 | ⟨g,cap,cur,hv,hbg,hh,rest⟩
 ·exact .inl h0
 ·have hlt:g < w.heap.size:=by
    rcases Nat.lt_or_ge g w.heap.size with h | h
    ·exact h
    ·rw [Array.getElem?_eq_none h] at hh; cases hh
  exact .inr ⟨g,cap,cur,hv,hbg,(hb.block g hlt).trans hh,rest⟩
theorem own_form {w:World} {base:Nat} {e:TypeId} {size n:Nat} {v:Value} {xs:List Value} (h:w.ownsRow base e size v n xs):∃ A c,v = .slice A n c∧n≤c∧c≤maxLen∧(0 < n→∃ g,A = some ⟨g,0,none⟩∧base≤g∧g < w.heap.size):=by
 rcases h.2 with ⟨rfl,rfl⟩ | ⟨g,cap,cur,rfl,hb,hh,hc,hm,_⟩
 ·exact ⟨none,0,rfl,Nat.le_refl _,Nat.zero_le _,fun h => absurd h (Nat.lt_irrefl 0)⟩
 ·refine ⟨_,cap,rfl,hc,hm,fun _ => ⟨g,rfl,hb,?_⟩⟩
  rcases Nat.lt_or_ge g w.heap.size with h | h
  ·exact h
  ·rw [Array.getElem?_eq_none h] at hh; cases hh
def Apart (v v':Value):Prop:=∀ g,v.ownBlock = some g→v'.ownBlock≠some g
theorem apart_types {w:World} {base base':Nat} {e e':TypeId} {size size' n n':Nat} {v v':Value} {xs xs':List Value} (h:w.ownsRow base e size v n xs) (h':w.ownsRow base' e' size' v' n' xs') (hne:e≠e'):Apart v v':=by
 intro g hg hg'
 rcases h.2 with ⟨rfl,_⟩ | ⟨a,cap,cur,rfl,_,hh,_⟩
 ·cases hg
 rcases h'.2 with ⟨rfl,_⟩ | ⟨a',cap',cur',rfl,_,hh',_⟩
 ·cases hg'
 have e1:a = g:=Option.some.inj hg
 have e2:a' = g:=Option.some.inj hg'
 subst e1
 subst e2
 rw [hh] at hh'
 injection hh' with hh'
 injection hh' with _ ht
 exact hne ht
theorem Apart.or_none {v v':Value} (h:Apart v v'):v.ownBlock = none∨v.ownBlock≠v'.ownBlock:=by
 rcases hv:v.ownBlock with _ | g
 ·exact .inl rfl
 ·right
  intro e
  exact h g hv e.symm
theorem Apart.symm {v v':Value} (h:Apart v v'):Apart v' v:=fun g hg hg' => h g hg' hg
end Go.Proofs.YtcondkihpmmnnaaGreatDoor
namespace Go.Proofs.YtcondkihpmmnnaaGreatDoor
open Go.RowKit Go.Sort
theorem reads_allocK (w:World) (xs:List Value) (T:TypeId) (k m:Nat) (h:xs.length = m * k):Reads (w.alloc (.cells xs.toArray T)) (w.heap.size + 1) k (some ⟨w.heap.size,0,none⟩) m xs:=by
 refine ⟨h,fun _ => ⟨_,rfl,by simp,fun j u hu => ?_⟩⟩
 rw [add_mk,Nat.zero_add,(Blk.new w T xs.toArray).cell]
 simpa using hu
structure BackW (w wr:World) (cs:Array Value) (G:Nat) (n:Int) (vS vE vA:Value) (S E:List Tp) (A:List Ar):Prop where
 box:Blk wr w.heap.size 27 cs
 res:Blk wr (w.heap.size + 1) 32 #[.int .i64 0,.slice none 0 0,.slice none 0 0,.slice none 0 0]
 t:Blk wr G 32 #[.int .i64 n,vS,vE,vA]
 gG:w.heap.size + 1 < G
 oS:wr.ownsRow (G + 1) 54 2 vS S.length (encs encT S)
 oE:wr.ownsRow (G + 1) 54 2 vE E.length (encs encT E)
 oA:wr.ownsRow (G + 1) 61 8 vA A.length (encs encA A)
 ap:Apart vS vE
 bel:Below w.heap.size w wr
section
variable {w wr w':World} {cs:Array Value} {G:Nat} {n:Int} {vS vE vA:Value} {S E:List Tp} {A:List Ar}
theorem BackW.size (h:BackW w wr cs G n vS vE vA S E A):G < wr.heap.size:=h.t.lt
theorem BackW.call (h:BackW w wr cs G n vS vE vA S E A) (hb:Below wr.heap.size wr w'):BackW w w' cs G n vS vE vA S E A :=
 have hz:=h.size
 have hg:=h.gG
 ⟨h.box.below hb (by omega),h.res.below hb (by omega),h.t.below hb hz,h.gG,own_below h.oS hb,own_below h.oE hb,own_below h.oA hb,h.ap,h.bel.trans (hb.mono (by omega))⟩
theorem own_blk {base:Nat} {e T:TypeId} {size m:Nat} {v:Value} {xs:List Value} (h:wr.ownsRow base e size v m xs) {g:Nat} {c:Array Value} (hb:Blk wr g T c) (hne:e≠T):v.ownBlock≠some g:=own_blk_ne h hb hne
theorem blk_keep {g:Nat} {T:TypeId} {c:Array Value} {row:Option Nat} (hb:Blk wr g T c) (hg:wr.grownBy w' row) (hne:row≠some g):Blk w' g T c:=hb.grown hg (fun e => hne e.symm)
theorem BackW.putA (h:BackW w wr cs G n vS vE vA S E A) {v':Value} {A':List Ar} (hg:wr.grownBy w' vA.ownBlock) (ho:w'.ownsRow (G + 1) 61 8 v' A'.length (encs encA A')) :
    BackW w (w'.setCell ⟨G,3,none⟩ v') cs G n vS vE v' S E A':=by
 have hz:=h.size
 have hgG:=h.gG
 have n0:=own_blk h.oA h.box (by decide)
 have n1:=own_blk h.oA h.res (by decide)
 have n2:=own_blk h.oA h.t (by decide)
 have kt:=blk_keep h.t hg n2
 have kS:=h.oS.kept hg (apart_types h.oS h.oA (by decide)).or_none
 have kE:=h.oE.kept hg (apart_types h.oE h.oA (by decide)).or_none
 refine ⟨(blk_keep h.box hg n0).far (p:=⟨G,3,none⟩) (by simp; omega) _,(blk_keep h.res hg n1).far (p:=⟨G,3,none⟩) (by simp; omega) _,?_,hgG,own_setCell kS (own_blk kS kt (by decide)) _,own_setCell kE (own_blk kE kt (by decide)) _,own_setCell ho (own_blk ho kt (by decide)) _,h.ap,?_⟩
 ·exact kt.set_ 3 v'
 ·exact ((h.bel).grown hg (by omega) (fun k hk => by have:=(own_lt h.oA k hk).1; omega)).setCell (p:=⟨G,3,none⟩) (by show w.heap.size≤G; omega) _
theorem BackW.putE (h:BackW w wr cs G n vS vE vA S E A) {v':Value} {E':List Tp} (hg:wr.grownBy w' vE.ownBlock) (ho:w'.ownsRow (G + 1) 54 2 v' E'.length (encs encT E')) (hl:v'.ownBlock = vE.ownBlock∨v'.ownBlock = some wr.heap.size) :
    BackW w (w'.setCell ⟨G,2,none⟩ v') cs G n vS v' vA S E' A:=by
 have hz:=h.size
 have hgG:=h.gG
 have n0:=own_blk h.oE h.box (by decide)
 have n1:=own_blk h.oE h.res (by decide)
 have n2:=own_blk h.oE h.t (by decide)
 have kt:=blk_keep h.t hg n2
 have kS:=h.oS.kept hg h.ap.or_none
 have kA:=h.oA.kept hg (apart_types h.oA h.oE (by decide)).or_none
 refine ⟨(blk_keep h.box hg n0).far (p:=⟨G,2,none⟩) (by simp; omega) _,(blk_keep h.res hg n1).far (p:=⟨G,2,none⟩) (by simp; omega) _,?_,hgG,own_setCell kS (own_blk kS kt (by decide)) _,own_setCell ho (own_blk ho kt (by decide)) _,own_setCell kA (own_blk kA kt (by decide)) _,?_,?_⟩
 ·exact kt.set_ 2 v'
 ·intro g hg1 hg2
  rcases hl with e | e
  ·exact h.ap g hg1 (by rw [← e]; exact hg2)
  ·rw [e] at hg2
   have:=(own_lt h.oS g hg1).2
   have:=Option.some.inj hg2
   omega
 ·exact ((h.bel).grown hg (by omega) (fun k hk => by have:=(own_lt h.oE k hk).1; omega)).setCell (p:=⟨G,2,none⟩) (by show w.heap.size≤G; omega) _
theorem BackW.putS (h:BackW w wr cs G n vS (.slice none 0 0) vA S E A) {v':Value} {S':List Tp} (hg:wr.grownBy w' vS.ownBlock) (ho:w'.ownsRow (G + 1) 54 2 v' S'.length (encs encT S')) :
    BackW w (w'.setCell ⟨G,1,none⟩ v') cs G n v' (.slice none 0 0) vA S' E A:=by
 have hz:=h.size
 have hgG:=h.gG
 have n0:=own_blk h.oS h.box (by decide)
 have n1:=own_blk h.oS h.res (by decide)
 have n2:=own_blk h.oS h.t (by decide)
 have kt:=blk_keep h.t hg n2
 have kE:=h.oE.kept hg (.inl rfl)
 have kA:=h.oA.kept hg (apart_types h.oA h.oS (by decide)).or_none
 refine ⟨(blk_keep h.box hg n0).far (p:=⟨G,1,none⟩) (by simp; omega) _,(blk_keep h.res hg n1).far (p:=⟨G,1,none⟩) (by simp; omega) _,?_,hgG,own_setCell ho (own_blk ho kt (by decide)) _,own_setCell kE (own_blk kE kt (by decide)) _,own_setCell kA (own_blk kA kt (by decide)) _,?_,?_⟩
 ·exact kt.set_ 1 v'
 ·intro g _ hg2
  cases hg2
 ·exact ((h.bel).grown hg (by omega) (fun k hk => by have:=(own_lt h.oS k hk).1; omega)).setCell (p:=⟨G,1,none⟩) (by show w.heap.size≤G; omega) _
end
end Go.Proofs.YtcondkihpmmnnaaGreatDoor
