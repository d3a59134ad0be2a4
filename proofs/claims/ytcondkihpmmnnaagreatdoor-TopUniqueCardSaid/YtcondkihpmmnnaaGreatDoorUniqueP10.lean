/- Lemmas, part 10 of 39. No condition. -/
import Derived.Test.YtcondkihpmmnnaaGreatDoorUniqueP09
import Derived.Test.YtcondkihpmmnnaaGreatDoorUniqueP07
import Derived.Test.YtcondkihpmmnnaaGreatDoorUniqueP05
import Derived.Test.YtcondkihpmmnnaaGreatDoorUniqueP02
namespace Go.Proofs.YtcondkihpmmnnaaGreatDoor
open Go.RowKit Go.Sort
theorem sortT_len (l:List Tp):(sortT l).length = l.length:=List.length_mergeSort _
theorem sortA_len (l:List Ar):(sortA l).length = l.length:=List.length_mergeSort _
def Fresh (B:Nat) (A:Option Addr) (n:Nat):Prop:=0 < n→∀ ad,A = some ad→B≤ad.block
theorem Fresh.less {B B' n:Nat} {A:Option Addr} (h:Fresh B A n) (hb:B'≤B):Fresh B' A n:=fun hn ad e => Nat.le_trans hb (h hn ad e)
theorem Reads.fresh {w w':World} {B B0 size n:Nat} {A:Option Addr} {xs:List Value} (h:Reads w B size A n xs) (hf:Fresh B0 A n) (hk:∀ p:Addr,B0≤p.block→p.block < B→w'.cell? p = w.cell? p):Reads w' B size A n xs :=
 ⟨h.1,fun hn => by
  obtain ⟨ad,e,hb,hc⟩:=h.2 hn
  exact ⟨ad,e,hb,fun j u hu => (hk _ (by rw [block_of_add]; exact hf hn ad e) (by rw [block_of_add]; exact hb)).trans (hc j u hu)⟩⟩
theorem Reads.freshSet {w:World} {B B0 size n:Nat} {A:Option Addr} {xs:List Value} (h:Reads w B size A n xs) (hf:Fresh B0 A n) {p:Addr} (hp:p.block < B0) (u:Value):Reads (w.setCell p u) B size A n xs :=
 h.fresh hf fun q hq _ => World.cell?_setCell_other w p q u (fun e => by subst e; omega)
def GTips (l:List Tp) (w:World) (e:Ending) (w':World):Prop :=
 ∃ A c,e = .returned (.slice A l.length c)∧Reads w' w'.heap.size 2 A l.length (encs encT l)∧l.length≤c∧c≤maxLen∧Fresh w.heap.size A l.length∧Below w.heap.size w w'
def GArcs (l:List Ar) (w:World) (e:Ending) (w':World):Prop :=
 ∃ A c,e = .returned (.slice A l.length c)∧Reads w' w'.heap.size 8 A l.length (encs encA l)∧l.length≤c∧c≤maxLen∧Fresh w.heap.size A l.length∧Below w.heap.size w w'
theorem eg_T:∀ args w,(callFunc 51 args).run Tryz.prog w = .ok (.enter 51 args) w:=enters_of Tryz.func51 (by kernel_rfl) rfl
set_option maxRecDepth 100000 in
set_option maxHeartbeats 2000000 in
theorem cloneT_any (A:Option Addr) (n c B:Nat) (l:List Tp) (w:World) (HR:Reads w B 2 A n (encs encT l)) (hB:B≤w.heap.size) (hn:n≤1000000) :
    Calls Tryz.prog 62 #[.slice A n c] w fun e w' => ∃ v',e = .returned v'∧w'.ownsRow w.heap.size 54 2 v' n (encs encT l)∧Below w.heap.size w w':=by
 obtain ⟨i0,hi,hz0,hz1,hz2⟩:=info_parts tip_info
 have hl:=HR.1
 have h1:∀ u∈encs encT l,u.oneCell' = true:=fun u hu => by
  unfold encs at hu
  rw [List.mem_flatMap] at hu
  obtain ⟨x,_,hx⟩:=hu
  exact encT_one x u hx
 have q22:∀ (w:World) (a:Option Addr) (n c n' c':Nat),(binOp .eql 29 (.slice a n c) (.slice none n' c')).run Tryz.prog w = .ok (.bool a.isNone) w:=fun w a n c n' c' => Lib.run_eql_slice_nil w _ _ a n c n' c' Tryz.underlying29
 generalize encs encT l = news at *
 rcases A with _ | ad
 ·have h0:n = 0:=by
    rcases Nat.eq_zero_or_pos n with h0 | h0
    ·exact h0
    ·obtain ⟨ad,h,_⟩:=HR.2 h0
     cases h
  subst h0
  have hn0:news = []:=List.eq_nil_of_length_eq_zero (by simpa using hl)
  subst hn0
  go_enter Tryz.func62,Tryz.ntmps62
  go_wp2
  go_ret
  exact ⟨_,rfl,⟨by simp,.inl ⟨rfl,rfl⟩⟩,Below.refl _ _⟩
 ·have HA:=Lib.hid (HR.alloc hB (.cells #[] 54))
  have H1:=Lib.hid h1
  have Hl:=Lib.hid hl
  clear HR h1 hl
  go_enter Tryz.func62,Tryz.ntmps62
  go_wp2_with (at_builtin; refine wpList_append_any _ rfl _ _ 29 rfl w.heap.size 54 i0 _ 2 24 Tryz.underlying29 hi hz0 hz1 hz2 rfl (by decide) _ _ _ rfl (World.ownsRow_made w #[] 0 (Nat.le_refl _) (Nat.zero_le _) (by simp)) B (some ad) n c news rfl HA.out H1.out (by unfold maxLen; omega) (by omega) (by simp) ?_; intro v' w1 hown hgrow hloc)
  go_wp2
  go_ret
  exact ⟨v',rfl,by simpa using hown,((Below.refl _ w).alloc (Nat.le_refl _) _).grown hgrow (by simp) (by intro k hk; have h5:some w.heap.size = some k:=hk; have h6:=Option.some.inj h5; omega)⟩
theorem compactT_void (A:Option Addr) (c:Nat) (w:World):Calls Tryz.prog 81 #[.slice A 0 c] w fun e w' => e = .returned (.slice A 0 c)∧w = w':=by
 go_enter Tryz.func81,Tryz.ntmps81
 go_wp2
 go_ret
 exact ⟨rfl,rfl⟩
theorem sortT_void (A:Option Addr) (c:Nat) (fv:Value) (w:World):Calls Tryz.prog 80 #[.slice A 0 c,fv] w fun e w' => e = .returned (.tuple #[])∧w = w' :=
 (AnyF.slices_SortFunc_none Tryz.sortTip A c fv w).mono fun _ _ ⟨he,hw⟩ => ⟨he,hw.symm⟩
set_option maxRecDepth 100000 in
set_option maxHeartbeats 2000000 in
theorem onceT_any (A:Option Addr) (n c B:Nat) (l:List Tp) (w:World) (HR0:Reads w B 2 A n (encs encT l)) (hB:B≤w.heap.size) (hn:n≤1000000) :
    Calls Tryz.prog 50 #[.slice A n c,.func (.func 51) #[] #[]] w (GTips (ordT l) w):=by
 have hl:=reads_len encT_len (by decide) HR0
 subst hl
 have hC:=cloneT_any A l.length c B l w HR0 hB hn
 clear HR0
 rcases Nat.eq_zero_or_pos l.length with h0 | h0
 ·have e0:l = []:=List.eq_nil_of_length_eq_zero h0
  subst e0
  have e1:ordT [] = []:=by unfold ordT sortT; rw [List.mergeSort_nil]; rfl
  rw [e1]
  clear e1 h0
  show Calls Tryz.prog 50 #[.slice A 0 c,.func (.func 51) #[] #[]] w _
  replace hC:Calls Tryz.prog 62 #[.slice A 0 c] w fun e w' => ∃ v',e = .returned v'∧w'.ownsRow w.heap.size 54 2 v' 0 []∧Below w.heap.size w w':=hC
  go_enter Tryz.func50,Tryz.ntmps50
  go_wp2_with fail
  refine hC.mono ?_
  rintro e w1 ⟨v1,rfl,hown,hb1⟩
  obtain ⟨A1,c1,hv,hc1⟩:∃ A1 c1,v1 = .slice A1 0 c1∧c1≤maxLen:=by
   rcases hown.2 with ⟨h,_⟩ | ⟨g,cap,cur,h,_,_,_,hm,_⟩
   ·exact ⟨none,0,h,Nat.zero_le _⟩
   ·exact ⟨_,cap,h,hm⟩
  clear hown hC
  subst hv
  go_wp2_with fail
  refine (sortT_void A1 c1 _ w1).mono ?_
  rintro e w2 ⟨rfl,rfl⟩
  go_wp2_with fail
  refine (compactT_void A1 c1 w1).mono ?_
  rintro e w2 ⟨rfl,rfl⟩
  go_wp2
  go_ret
  exact ⟨A1,c1,rfl,⟨rfl,fun h => absurd h (Nat.lt_irrefl 0)⟩,Nat.zero_le _,hc1,fun h => absurd h (Nat.lt_irrefl 0),hb1⟩
 ·go_enter Tryz.func50,Tryz.ntmps50
  go_wp2_with fail
  refine hC.mono ?_
  rintro e w1 ⟨v1,rfl,hown,hb1⟩
  obtain ⟨g1,cap,rfl,hg0,hg1,hcap,hcm,HM⟩:=RowM.of_own encT_len tp0 hown rfl h0
  clear hown hC
  go_wp2_with fail
  refine (sortTip_any _ eg_T fstCompareT_any g1 cap l w1 HM hg1 hn).mono ?_
  rintro e w2 ⟨rfl,HM2,hb2⟩
  have hb2':=hb2 w.heap.size hg0
  have hg2:g1 < w2.heap.size:=Nat.lt_of_lt_of_le hg1 (hb2 0 (by omega)).size
  have hcc:=compactT_any g1 cap (sortT l) w2 HM2 hg2 (by rw [sortT_len]; exact hcap) hcm (by rw [sortT_len]; exact hn)
  rw [sortT_len] at hcc
  have hle:=once1_len (sortT l) (sortT l).length
  rw [List.take_length,sortT_len] at hle
  clear HM HM2
  have Hcc:=Lib.hid hcc
  clear hcc
  go_wp2_with fail
  refine Hcc.out.mono ?_
  rintro e w3 ⟨rfl,HM3,hb3⟩
  go_wp2
  go_ret
  have hb3':=hb3 w.heap.size hg0
  have hz3:=(hb3 0 (by omega)).size
  exact ⟨some ⟨g1,0,none⟩,cap,rfl,HM3.reads encT_len (by decide) tp0 (Nat.le_refl _) (by omega),Nat.le_trans hle hcap,hcm,fun _ ad e => by have:=Option.some.inj e; subst this; exact hg0,(hb1.trans hb2').trans hb3'⟩
theorem eg_A:∀ args w,(callFunc 53 args).run Tryz.prog w = .ok (.enter 53 args) w:=enters_of Tryz.func53 (by kernel_rfl) rfl
set_option maxRecDepth 100000 in
set_option maxHeartbeats 2000000 in
theorem cloneA_any (A:Option Addr) (n c B:Nat) (l:List Ar) (w:World) (HR:Reads w B 8 A n (encs encA l)) (hB:B≤w.heap.size) (hn:n≤1000000) :
    Calls Tryz.prog 85 #[.slice A n c] w fun e w' => ∃ v',e = .returned v'∧w'.ownsRow w.heap.size 61 8 v' n (encs encA l)∧Below w.heap.size w w':=by
 obtain ⟨i0,hi,hz0,hz1,hz2⟩:=info_parts arc_info
 have hl:=HR.1
 have h1:∀ u∈encs encA l,u.oneCell' = true:=fun u hu => by
  unfold encs at hu
  rw [List.mem_flatMap] at hu
  obtain ⟨x,_,hx⟩:=hu
  exact encA_one x u hx
 have q22:∀ (w:World) (a:Option Addr) (n c n' c':Nat),(binOp .eql 30 (.slice a n c) (.slice none n' c')).run Tryz.prog w = .ok (.bool a.isNone) w:=fun w a n c n' c' => Lib.run_eql_slice_nil w _ _ a n c n' c' Tryz.underlying30
 generalize encs encA l = news at *
 rcases A with _ | ad
 ·have h0:n = 0:=by
    rcases Nat.eq_zero_or_pos n with h0 | h0
    ·exact h0
    ·obtain ⟨ad,h,_⟩:=HR.2 h0
     cases h
  subst h0
  have hn0:news = []:=List.eq_nil_of_length_eq_zero (by simpa using hl)
  subst hn0
  go_enter Tryz.func85,Tryz.ntmps85
  go_wp2
  go_ret
  exact ⟨_,rfl,⟨by simp,.inl ⟨rfl,rfl⟩⟩,Below.refl _ _⟩
 ·have HA:=Lib.hid (HR.alloc hB (.cells #[] 61))
  have H1:=Lib.hid h1
  have Hl:=Lib.hid hl
  clear HR h1 hl
  go_enter Tryz.func85,Tryz.ntmps85
  go_wp2_with (at_builtin; refine wpList_append_any _ rfl _ _ 30 rfl w.heap.size 61 i0 _ 8 72 Tryz.underlying30 hi hz0 hz1 hz2 rfl (by decide) _ _ _ rfl (World.ownsRow_made w #[] 0 (Nat.le_refl _) (Nat.zero_le _) (by simp)) B (some ad) n c news rfl HA.out H1.out (by unfold maxLen; omega) (by omega) (by simp) ?_; intro v' w1 hown hgrow hloc)
  go_wp2
  go_ret
  exact ⟨v',rfl,by simpa using hown,((Below.refl _ w).alloc (Nat.le_refl _) _).grown hgrow (by simp) (by intro k hk; have h5:some w.heap.size = some k:=hk; have h6:=Option.some.inj h5; omega)⟩
theorem compactA_void (A:Option Addr) (c:Nat) (w:World):Calls Tryz.prog 87 #[.slice A 0 c] w fun e w' => e = .returned (.slice A 0 c)∧w = w':=by
 go_enter Tryz.func87,Tryz.ntmps87
 go_wp2
 go_ret
 exact ⟨rfl,rfl⟩
theorem sortA_void (A:Option Addr) (c:Nat) (fv:Value) (w:World):Calls Tryz.prog 86 #[.slice A 0 c,fv] w fun e w' => e = .returned (.tuple #[])∧w = w' :=
 (AnyF.slices_SortFunc_none Tryz.sortArc A c fv w).mono fun _ _ ⟨he,hw⟩ => ⟨he,hw.symm⟩
set_option maxRecDepth 100000 in
set_option maxHeartbeats 2000000 in
theorem onceA_any (A:Option Addr) (n c B:Nat) (l:List Ar) (w:World) (HR0:Reads w B 8 A n (encs encA l)) (hB:B≤w.heap.size) (hn:n≤1000000) :
    Calls Tryz.prog 52 #[.slice A n c,.func (.func 53) #[] #[]] w (GArcs (ordA l) w):=by
 have hl:=reads_len encA_len (by decide) HR0
 subst hl
 have hC:=cloneA_any A l.length c B l w HR0 hB hn
 clear HR0
 rcases Nat.eq_zero_or_pos l.length with h0 | h0
 ·have e0:l = []:=List.eq_nil_of_length_eq_zero h0
  subst e0
  have e1:ordA [] = []:=by unfold ordA sortA; rw [List.mergeSort_nil]; rfl
  rw [e1]
  clear e1 h0
  show Calls Tryz.prog 52 #[.slice A 0 c,.func (.func 53) #[] #[]] w _
  replace hC:Calls Tryz.prog 85 #[.slice A 0 c] w fun e w' => ∃ v',e = .returned v'∧w'.ownsRow w.heap.size 61 8 v' 0 []∧Below w.heap.size w w':=hC
  go_enter Tryz.func52,Tryz.ntmps52
  go_wp2_with fail
  refine hC.mono ?_
  rintro e w1 ⟨v1,rfl,hown,hb1⟩
  obtain ⟨A1,c1,hv,hc1⟩:∃ A1 c1,v1 = .slice A1 0 c1∧c1≤maxLen:=by
   rcases hown.2 with ⟨h,_⟩ | ⟨g,cap,cur,h,_,_,_,hm,_⟩
   ·exact ⟨none,0,h,Nat.zero_le _⟩
   ·exact ⟨_,cap,h,hm⟩
  clear hown hC
  subst hv
  go_wp2_with fail
  refine (sortA_void A1 c1 _ w1).mono ?_
  rintro e w2 ⟨rfl,rfl⟩
  go_wp2_with fail
  refine (compactA_void A1 c1 w1).mono ?_
  rintro e w2 ⟨rfl,rfl⟩
  go_wp2
  go_ret
  exact ⟨A1,c1,rfl,⟨rfl,fun h => absurd h (Nat.lt_irrefl 0)⟩,Nat.zero_le _,hc1,fun h => absurd h (Nat.lt_irrefl 0),hb1⟩
 ·go_enter Tryz.func52,Tryz.ntmps52
  go_wp2_with fail
  refine hC.mono ?_
  rintro e w1 ⟨v1,rfl,hown,hb1⟩
  obtain ⟨g1,cap,rfl,hg0,hg1,hcap,hcm,HM⟩:=RowM.of_own encA_len ar0 hown rfl h0
  clear hown hC
  go_wp2_with fail
  refine (sortArc_any _ eg_A fstCompareA_any g1 cap l w1 HM hg1 hn).mono ?_
  rintro e w2 ⟨rfl,HM2,hb2⟩
  have hb2':=hb2 w.heap.size hg0
  have hg2:g1 < w2.heap.size:=Nat.lt_of_lt_of_le hg1 (hb2 0 (by omega)).size
  have hcc:=compactA_any g1 cap (sortA l) w2 HM2 hg2 (by rw [sortA_len]; exact hcap) hcm (by rw [sortA_len]; exact hn)
  rw [sortA_len] at hcc
  have hle:=once1_len (sortA l) (sortA l).length
  rw [List.take_length,sortA_len] at hle
  clear HM HM2
  have Hcc:=Lib.hid hcc
  clear hcc
  go_wp2_with fail
  refine Hcc.out.mono ?_
  rintro e w3 ⟨rfl,HM3,hb3⟩
  go_wp2
  go_ret
  have hb3':=hb3 w.heap.size hg0
  have hz3:=(hb3 0 (by omega)).size
  exact ⟨some ⟨g1,0,none⟩,cap,rfl,HM3.reads encA_len (by decide) ar0 (Nat.le_refl _) (by omega),Nat.le_trans hle hcap,hcm,fun _ ad e => by have:=Option.some.inj e; subst this; exact hg0,(hb1.trans hb2').trans hb3'⟩
end Go.Proofs.YtcondkihpmmnnaaGreatDoor
namespace Go.Proofs.YtcondkihpmmnnaaGreatDoor
open Go.RowKit Go.Sort
def fs0:Fs:=⟨0,[],[],[]⟩
def sortF (t:Fs):Fs:=⟨t.n,ordT t.starts,ordT t.ends,ordA t.arcs⟩
def FstNew (B:Nat) (v:Value):Prop :=
 ∃ (N:Int) (A1:Option Addr) (n1 c1:Nat) (A2:Option Addr) (n2 c2:Nat) (A3:Option Addr) (n3 c3:Nat),v = .agg #[.int .i64 N,.slice A1 n1 c1,.slice A2 n2 c2,.slice A3 n3 c3]∧Fresh B A1 n1∧Fresh B A2 n2∧Fresh B A3 n3
theorem FstNew.less {B B':Nat} {v:Value} (h:FstNew B v) (hb:B'≤B):FstNew B' v:=by
 obtain ⟨N,A1,n1,c1,A2,n2,c2,A3,n3,c3,rfl,f1,f2,f3⟩:=h
 exact ⟨N,A1,n1,c1,A2,n2,c2,A3,n3,c3,rfl,f1.less hb,f2.less hb,f3.less hb⟩
theorem FstAt.fresh {w w':World} {B B0:Nat} {t:Fs} {v:Value} (h:FstAt w B t v) (hf:FstNew B0 v) (hk:∀ p:Addr,B0≤p.block→p.block < B→w'.cell? p = w.cell? p):FstAt w' B t v:=by
 obtain ⟨A1,c1,A2,c2,A3,c3,hv,h1,h2,h3,h4,h5,h6,h7,h8,R1,W1,R2,W2,R3,W3⟩:=h
 obtain ⟨N,A1',n1,c1',A2',n2,c2',A3',n3,c3',hv',f1,f2,f3⟩:=hf
 rw [hv] at hv'
 simp only [Value.agg.injEq,Array.mk.injEq,List.cons.injEq,Value.slice.injEq,and_true] at hv'
 obtain ⟨_,⟨rfl,rfl,_⟩,⟨rfl,rfl,_⟩,rfl,rfl,_⟩:=hv'
 exact ⟨A1,c1,A2,c2,A3,c3,hv,h1,h2,h3,h4,h5,h6,h7,h8,R1.fresh f1 hk,W1,R2.fresh f2 hk,W2,R3.fresh f3 hk,W3⟩
theorem FstAt.freshSet {w:World} {B B0:Nat} {t:Fs} {v:Value} (h:FstAt w B t v) (hf:FstNew B0 v) {p:Addr} (hp:p.block < B0) (u:Value):FstAt (w.setCell p u) B t v :=
 h.fresh hf fun q hq _ => World.cell?_setCell_other w p q u (fun e => by subst e; omega)
def GF (t:Fs) (r:Int) (w:World) (e:Ending) (w':World):Prop :=
 ∃ v,e = .returned (.tuple #[v,.int .i64 r])∧FstAt w' w'.heap.size t v∧FstNew w.heap.size v∧Below w.heap.size w w'
theorem fst0_new (B:Nat):FstNew B (.agg #[.int .i64 0,.slice none 0 0,.slice none 0 0,.slice none 0 0]) :=
 ⟨_,none,0,0,none,0,0,none,0,0,rfl,fun h => absurd h (Nat.lt_irrefl 0),fun h => absurd h (Nat.lt_irrefl 0),fun h => absurd h (Nat.lt_irrefl 0)⟩
theorem fst0_at (w:World) (B:Nat):FstAt w B fs0 (.agg #[.int .i64 0,.slice none 0 0,.slice none 0 0,.slice none 0 0]) :=
 ⟨none,0,none,0,none,0,rfl,Nat.le_refl _,Nat.le_refl _,Nat.le_refl _,Nat.zero_le _,Nat.zero_le _,Nat.zero_le _,by decide,by decide,⟨rfl,fun h => absurd h (Nat.lt_irrefl 0)⟩,fun _ h => (List.not_mem_nil h).elim,⟨rfl,fun h => absurd h (Nat.lt_irrefl 0)⟩,fun _ h => (List.not_mem_nil h).elim,⟨rfl,fun h => absurd h (Nat.lt_irrefl 0)⟩,fun _ h => (List.not_mem_nil h).elim⟩
theorem below_set4 {B:Nat} {w w':World} (h:Below B w w') {g:Nat} (hg:B≤g) (a b c d:Value):Below B w ((((w'.setCell ⟨g,0,none⟩ a).setCell ⟨g,1,none⟩ b).setCell ⟨g,2,none⟩ c).setCell ⟨g,3,none⟩ d) :=
 (((h.setCell (p:=⟨g,0,none⟩) hg _).setCell (p:=⟨g,1,none⟩) hg _).setCell (p:=⟨g,2,none⟩) hg _).setCell (p:=⟨g,3,none⟩) hg _
theorem Reads.freshSet4 {B B0 size n:Nat} {A:Option Addr} {xs:List Value} {w:World} (h:Reads w B size A n xs) (hf:Fresh B0 A n) {g:Nat} (hg:g < B0) (a b c d:Value):Reads ((((w.setCell ⟨g,0,none⟩ a).setCell ⟨g,1,none⟩ b).setCell ⟨g,2,none⟩ c).setCell ⟨g,3,none⟩ d) B size A n xs :=
 (((h.freshSet hf (p:=⟨g,0,none⟩) hg _).freshSet hf (p:=⟨g,1,none⟩) hg _).freshSet hf (p:=⟨g,2,none⟩) hg _).freshSet hf (p:=⟨g,3,none⟩) hg _
theorem fck_sizes {t:Fs} (h:fckB t = true):t.starts.length≤1024∧t.ends.length≤1024∧t.arcs.length≤16384:=by
 unfold fckB tipsB at h
 simp only [Bool.and_eq_true,decide_eq_true_eq] at h
 exact ⟨h.1.1.2.1,h.1.2.1,h.1.1.1.2⟩
set_option maxRecDepth 100000 in
set_option maxHeartbeats 8000000 in
theorem fstSort_any (t:Fs) (v:Value) (B:Nat) (w:World) (HS:FstAt w B t v) (hB:B≤w.heap.size) :
    Calls Tryz.prog 21 #[v] w (GF (if fckB t = true then sortF t else fs0) (okE (fckB t)) w):=by
 have HS':=HS.more hB
 clear HS
 have hck:∀ W,Below w.heap.size w W→Calls Tryz.prog 20 #[v] W (Gives (.int .i64 (okE (fckB t))) W):=fun W hb => fstCheck_any t v w.heap.size W (HS'.below hb) hb.size
 obtain ⟨A1,c1,A2,c2,A3,c3,rfl,h1,h2,h3,h4,h5,h6,h7,h8,R1,W1,R2,W2,R3,W3⟩:=HS'
 rcases hf:fckB t with _ | _
 ·rw [hf] at hck
  rw [if_neg (by decide)]
  clear R1 R2 R3 W1 W2 W3 hf
  replace hck:∀ W,Below w.heap.size w W→Calls Tryz.prog 20 #[.agg #[.int .i64 t.n,.slice A1 t.starts.length c1,.slice A2 t.ends.length c2,.slice A3 t.arcs.length c3]] W (Gives (.int .i64 1) W):=hck
  show Calls Tryz.prog 21 _ w (GF fs0 1 w)
  generalize t.n = N at *
  generalize t.starts.length = n1 at *
  generalize t.ends.length = n2 at *
  generalize t.arcs.length = n3 at *
  go_enter Tryz.func21,Tryz.ntmps21
  go_wp2_with fail
  refine (hck _ (((Below.refl _ w).alloc (Nat.le_refl _) _).alloc (by simp) _)).mono ?_
  rintro e w1 ⟨rfl,HB1⟩
  have K:=(Blk.new (w.alloc (.cells #[.int .i64 N,.slice A1 n1 c1,.slice A2 n2 c2,.slice A3 n3 c3] 32)) 32 #[.int .i64 0,.slice none 0 0,.slice none 0 0,.slice none 0 0]).below HB1 (by simp)
  rw [World.size_alloc] at K
  have L1:=(((Below.refl _ w).alloc (Nat.le_refl _) (.cells #[.int .i64 N,.slice A1 n1 c1,.slice A2 n2 c2,.slice A3 n3 c3] 32)).alloc (by simp) (.cells #[.int .i64 0,.slice none 0 0,.slice none 0 0,.slice none 0 0] 32)).trans (HB1.mono (by simp; omega))
  have k0:=K.cell 0
  have k1:=K.cell 1
  have k2:=K.cell 2
  have k3:=K.cell 3
  have f0:=K.frozen 0
  have f1:=K.frozen 1
  have f2:=K.frozen 2
  have f3:=K.frozen 3
  clear K
  go_wp2
  refine bodyPost_ret (v:=.tuple #[.agg #[.int .i64 0,.slice none 0 0,.slice none 0 0,.slice none 0 0],.int .i64 1]) (by simp [results,Tryz.results21,go_sem,k0,k1,k2,k3]) rfl ⟨_,rfl,fst0_at _ _,fst0_new _,below_set4 L1 (by omega) _ _ _ _⟩
 ·rw [hf] at hck
  rw [if_pos rfl]
  show Calls Tryz.prog 21 _ w (GF (sortF t) 0 w)
  replace hck:∀ W,Below w.heap.size w W→Calls Tryz.prog 20 #[.agg #[.int .i64 t.n,.slice A1 t.starts.length c1,.slice A2 t.ends.length c2,.slice A3 t.arcs.length c3]] W (Gives (.int .i64 0) W):=hck
  obtain ⟨z1,z2,z3⟩:=fck_sizes hf
  have T1:∀ W,Below w.heap.size w W→Calls Tryz.prog 50 #[.slice A1 t.starts.length c1,.func (.func 51) #[] #[]] W (GTips (ordT t.starts) W):=fun W hb => onceT_any A1 _ c1 _ t.starts W (R1.below hb) hb.size (by omega)
  have T2:∀ W,Below w.heap.size w W→Calls Tryz.prog 50 #[.slice A2 t.ends.length c2,.func (.func 51) #[] #[]] W (GTips (ordT t.ends) W):=fun W hb => onceT_any A2 _ c2 _ t.ends W (R2.below hb) hb.size (by omega)
  have T3:∀ W,Below w.heap.size w W→Calls Tryz.prog 52 #[.slice A3 t.arcs.length c3,.func (.func 53) #[] #[]] W (GArcs (ordA t.arcs) W):=fun W hb => onceA_any A3 _ c3 _ t.arcs W (R3.below hb) hb.size (by omega)
  have HWs:=Lib.hid (show (∀ x∈ordT t.starts,TpW x)∧(∀ x∈ordT t.ends,TpW x)∧(∀ x∈ordA t.arcs,ArW x) from ⟨fun x hx => W1 x ((ordT_mem _ _).1 hx),fun x hx => W2 x ((ordT_mem _ _).1 hx),fun x hx => W3 x ((ordA_mem _ _).1 hx)⟩)
  have Hsf:=Lib.hid (show (sortF t).n = t.n∧(sortF t).starts = ordT t.starts∧(sortF t).ends = ordT t.ends∧(sortF t).arcs = ordA t.arcs from ⟨rfl,rfl,rfl,rfl⟩)
  clear R1 R2 R3 W1 W2 W3 hf
  generalize sortF t = st at *
  generalize ordT t.starts = l1 at *
  generalize ordT t.ends = l2 at *
  generalize ordA t.arcs = l3 at *
  generalize t.n = N at *
  generalize t.starts.length = n1 at *
  generalize t.ends.length = n2 at *
  generalize t.arcs.length = n3 at *
  go_enter Tryz.func21,Tryz.ntmps21
  go_wp2_with fail
  refine (hck _ (((Below.refl _ w).alloc (Nat.le_refl _) _).alloc (by simp) _)).mono ?_
  rintro e w1 ⟨rfl,HB1⟩
  have K:=(Blk.new (w.alloc (.cells #[.int .i64 N,.slice A1 n1 c1,.slice A2 n2 c2,.slice A3 n3 c3] 32)) 32 #[.int .i64 0,.slice none 0 0,.slice none 0 0,.slice none 0 0]).below HB1 (by simp)
  have J:=((Blk.new w 32 #[.int .i64 N,.slice A1 n1 c1,.slice A2 n2 c2,.slice A3 n3 c3]).alloc (.cells #[.int .i64 0,.slice none 0 0,.slice none 0 0,.slice none 0 0] 32)).below HB1 (by simp; omega)
  rw [World.size_alloc] at K
  have L1:=(((Below.refl _ w).alloc (Nat.le_refl _) (.cells #[.int .i64 N,.slice A1 n1 c1,.slice A2 n2 c2,.slice A3 n3 c3] 32)).alloc (by simp) (.cells #[.int .i64 0,.slice none 0 0,.slice none 0 0,.slice none 0 0] 32)).trans (HB1.mono (by simp; omega))
  have hz1:w.heap.size + 1 < w1.heap.size:=by have:=HB1.size; simp at this; omega
  clear HB1 hck
  have j0:=cell_regrown (J.cell 0)
  have j1:=cell_regrown (J.cell 1)
  have j2:=cell_regrown (J.cell 2)
  have j3:=cell_regrown (J.cell 3)
  clear J
  go_wp2
  refine wp_region_hold_below 11 [0,1,2,3,5,6,8,9] [4,7,10] (by kernel_rfl) (by kernel_rfl) rfl (by kernel_rfl) ?_
  simp only [pickOps,List.getElem?_cons_zero,List.getElem?_cons_succ,List.drop_succ_cons,List.drop_zero]
  repeat (go_big_quiet_step (fail))
  refine wpQuiet_nil ?_
  clear j0 j1 j2 j3
  refine wpForce_step rfl (fun KK hKK => ?_)
  go_simp
  refine (T1 _ L1.drew).mono ?_
  rintro e w2 ⟨B1,d1,rfl,Q1,u1,m1,F1,HB2⟩
  have L2:Below w1.heap.size w1 w2:=((Below.refl _ w1).drew).trans HB2
  refine hKK _ _ (regrown_of_below L2) ?_
  clear hKK KK
  refine wpForce_step rfl (fun KK hKK => ?_)
  go_simp
  refine (T2 _ (L1.trans (L2.mono L1.size))).mono ?_
  rintro e w3 ⟨B2,d2,rfl,Q2,u2,m2,F2,HB3⟩
  have L3:Below w1.heap.size w1 w3:=L2.trans (HB3.mono L2.size)
  refine hKK _ _ (regrown_of_below L3) ?_
  clear hKK KK
  refine wpForce_step rfl (fun KK hKK => ?_)
  go_simp
  refine (T3 _ (L1.trans (L3.mono L1.size))).mono ?_
  rintro e w4 ⟨B3,d3,rfl,Q3,u3,m3,F3,HB4⟩
  have L4:Below w1.heap.size w1 w4:=L3.trans (HB4.mono L3.size)
  refine hKK _ _ (regrown_of_below L4) ?_
  clear hKK KK
  refine wpForce_nil ?_
  have K4:=K.below L4 (by omega)
  have k0:=K4.cell 0
  have k1:=K4.cell 1
  have k2:=K4.cell 2
  have k3:=K4.cell 3
  have f0:=K4.frozen 0
  have f1:=K4.frozen 1
  have f2:=K4.frozen 2
  have f3:=K4.frozen 3
  have M1:=((Q1.below HB3).below ((HB4).mono HB3.size)).more (Nat.le_trans HB3.size HB4.size)
  have M2:=(Q2.below HB4).more HB4.size
  have F1':=F1.less (show w1.heap.size≤_ from Nat.le_refl _)
  have F2':=F2.less (show w1.heap.size≤_ from L2.size)
  have F3':=F3.less (show w1.heap.size≤_ from L3.size)
  have L5:=L1.trans (L4.mono (Nat.le_trans (Nat.le_refl _) L1.size))
  have FN:=Lib.hid (show Fresh w.heap.size B1 l1.length∧Fresh w.heap.size B2 l2.length∧Fresh w.heap.size B3 l3.length from ⟨F1'.less (by omega),F2'.less (by omega),F3'.less (by omega)⟩)
  clear K K4 T1 T2 T3 HB2 HB3 HB4 L1 L2 L3 Q1 Q2 F1 F2 F3
  have E1:=(M1.freshSet4 F1' (show w.heap.size + 1 < w1.heap.size from hz1) (.int .i64 N) (.slice B1 l1.length d1) (.slice B2 l2.length d2) (.slice B3 l3.length d3))
  have E2:=(M2.freshSet4 F2' (show w.heap.size + 1 < w1.heap.size from hz1) (.int .i64 N) (.slice B1 l1.length d1) (.slice B2 l2.length d2) (.slice B3 l3.length d3))
  have E3:=(Q3.freshSet4 F3' (show w.heap.size + 1 < w1.heap.size from hz1) (.int .i64 N) (.slice B1 l1.length d1) (.slice B2 l2.length d2) (.slice B3 l3.length d3))
  have E1':=Lib.hid E1
  have E2':=Lib.hid E2
  have E3':=Lib.hid E3
  clear E1 E2 E3 M1 M2 Q3 F1' F2' F3'
  go_wp2
  refine NoPanic.normal ?_
  go_wp2
  refine bodyPost_ret (v:=.tuple #[.agg #[.int .i64 N,.slice B1 l1.length d1,.slice B2 l2.length d2,.slice B3 l3.length d3],.int .i64 0]) (by simp [results,Tryz.results21,go_sem,k0,k1,k2,k3]) rfl ⟨_,rfl,?_,⟨_,B1,_,d1,B2,_,d2,B3,_,d3,rfl,FN.out.1,FN.out.2.1,FN.out.2.2⟩,below_set4 L5 (by omega) _ _ _ _⟩
  obtain ⟨s1,s2,s3,s4⟩:=Hsf.out
  obtain ⟨g1,g2,g3⟩:=HWs.out
  refine ⟨B1,d1,B2,d2,B3,d3,by rw [s1,s2,s3,s4],by rw [s2]; exact u1,by rw [s3]; exact u2,by rw [s4]; exact u3,m1,m2,m3,by rw [s1]; exact h7,by rw [s1]; exact h8,?_,by rw [s2]; exact g1,?_,by rw [s3]; exact g2,?_,by rw [s4]; exact g3⟩
  ·rw [s2]; simpa using E1'.out
  ·rw [s3]; simpa using E2'.out
  ·rw [s4]; simpa using E3'.out
end Go.Proofs.YtcondkihpmmnnaaGreatDoor
namespace Go.Proofs.YtcondkihpmmnnaaGreatDoor
open Go.RowKit Go.Sort
theorem own_setCell {w:World} {base:Nat} {e:TypeId} {size n:Nat} {v:Value} {xs:List Value} (h:w.ownsRow base e size v n xs) {p:Addr} (hp:v.ownBlock≠some p.block) (u:Value):(w.setCell p u).ownsRow base e size v n xs :=
 h.kept (row:=some p.block) ⟨rfl,rfl,rfl,by simp,fun k hk hne => Below.heap_setCell w p u k (fun e => hne (by rw [e]))⟩ (.inr hp)
theorem own_lt {w:World} {base:Nat} {e:TypeId} {size n:Nat} {v:Value} {xs:List Value} (h:w.ownsRow base e size v n xs):∀ g,v.ownBlock = some g→base≤g∧g < w.heap.size:=by
 intro g hg
 rcases h.2 with ⟨rfl,_⟩ | ⟨g',cap,cur,rfl,hb,hh,_⟩
 ·cases hg
 ·have:g' = g:=Option.some.inj hg
  subst this
  refine ⟨hb,?_⟩
  rcases Nat.lt_or_ge g' w.heap.size with h | h
  ·exact h
  ·rw [Array.getElem?_eq_none h] at hh; cases hh
theorem own_below {w w':World} {base:Nat} {e:TypeId} {size n:Nat} {v:Value} {xs:List Value} (h:w.ownsRow base e size v n xs) (hb:Below w.heap.size w w'):w'.ownsRow base e size v n xs:=by
 refine ⟨h.1,?_⟩
 rcases h.2 with h0 | ⟨g,cap,cur,hv,hbg,hh,rest⟩
 ·exact .inl h0
 ·have hlt:g < w.heap.size:=by
    rcases Nat.lt_or_ge g w.heap.size with h | h
    ·exact h
    ·rw [Array.getElem?_eq_none h] at hh; cases hh
  exact .inr ⟨g,cap,cur,hv,hbg,(hb.block g hlt).trans hh,rest⟩
theorem own_form {w:World} {base:Nat} {e:TypeId} {size n:Nat} {v:Value} {xs:List Value} (h:w.ownsRow base e size v n xs):∃ A c,v = .slice A n c∧n≤c∧c≤maxLen∧(0 < n→∃ g,A = some ⟨g,0,none⟩∧base≤g∧g < w.heap.size):=by
 rcases h.2 with ⟨rfl,rfl⟩ | ⟨g,cap,cur,rfl,hb,hh,hc,hm,_⟩
 ·exact ⟨none,0,rfl,Nat.le_refl _,Nat.zero_le _,fun h => absurd h (Nat.lt_irrefl 0)⟩
 ·refine ⟨_,cap,rfl,hc,hm,fun _ => ⟨g,rfl,hb,?_⟩⟩
  rcases Nat.lt_or_ge g w.heap.size with h | h
  ·exact h
  ·rw [Array.getElem?_eq_none h] at hh; cases hh
def Apart (v v':Value):Prop:=∀ g,v.ownBlock = some g→v'.ownBlock≠some g
theorem apart_types {w:World} {base base':Nat} {e e':TypeId} {size size' n n':Nat} {v v':Value} {xs xs':List Value} (h:w.ownsRow base e size v n xs) (h':w.ownsRow base' e' size' v' n' xs') (hne:e≠e'):Apart v v':=by
 intro g hg hg'
 rcases h.2 with ⟨rfl,_⟩ | ⟨a,cap,cur,rfl,_,hh,_⟩
 ·cases hg
 rcases h'.2 with ⟨rfl,_⟩ | ⟨a',cap',cur',rfl,_,hh',_⟩
 ·cases hg'
 have e1:a = g:=Option.some.inj hg
 have e2:a' = g:=Option.some.inj hg'
 subst e1
 subst e2
 rw [hh] at hh'
 injection hh' with hh'
 injection hh' with _ ht
 exact hne ht
theorem Apart.or_none {v v':Value} (h:Apart v v'):v.ownBlock = none∨v.ownBlock≠v'.ownBlock:=by
 rcases hv:v.ownBlock with _ | g
 ·exact .inl rfl
 ·right
  intro e
  exact h g hv e.symm
theorem Apart.symm {v v':Value} (h:Apart v v'):Apart v' v:=fun g hg hg' => h g hg' hg
end Go.Proofs.YtcondkihpmmnnaaGreatDoor
namespace Go.Proofs.YtcondkihpmmnnaaGreatDoor
open Go.RowKit Go.Sort
abbrev nilV:Value:=.slice none 0 0
theorem own_setAt {w:World} {base:Nat} {e:TypeId} {L n c:Nat} {xs:List Value} (h:w.ownsRow base e 1 (.slice (some ⟨L,0,none⟩) n c) n xs) (s:Nat) (_hs:s < n) (v:Value) :
    (w.setCell ⟨L,s,none⟩ v).ownsRow base e 1 (.slice (some ⟨L,0,none⟩) n c) n (xs.set s v):=by
 obtain ⟨hl,h | ⟨g,cap,cur,hv,hb,hh,hc,hm,hsz,ht⟩⟩:=h
 ·obtain ⟨h,_⟩:=h; cases h
 ·injection hv with hv1 _ hv2
  have hg:=Option.some.inj hv1
  injection hg with hg
  subst hg hv2
  refine ⟨by rw [List.length_set]; exact hl,.inr ⟨L,c,cur.setIfInBounds s v,rfl,hb,?_,hc,hm,by simpa using hsz,?_⟩⟩
  ·simp [World.setCell,Array.getElem?_modify,hh]
  ·rw [← ht,Array.toList_setIfInBounds,List.take_set]
theorem own_cellAt {w:World} {base:Nat} {e:TypeId} {L n c:Nat} {xs:List Value} (h:w.ownsRow base e 1 (.slice (some ⟨L,0,none⟩) n c) n xs) (s:Nat) (hs:s < n) (d:Value):w.cell? ⟨L,s,none⟩ = some (xs.getD s d):=by
 have hl:=h.1
 have:=h.cells (g:=L) rfl s (xs.getD s d) (by rw [List.getD_eq_getElem?_getD,List.getElem?_eq_getElem (by omega)]; rfl)
 rw [add_mk,Nat.zero_add] at this; exact this
theorem own_frozenAt {w:World} {base:Nat} {e:TypeId} {L n c:Nat} {xs:List Value} (h:w.ownsRow base e 1 (.slice (some ⟨L,0,none⟩) n c) n xs) (s:Nat):w.frozen? ⟨L,s,none⟩ = false:=by
 obtain ⟨_,h | ⟨g,cap,cur,hv,_,hh,_⟩⟩:=h
 ·obtain ⟨h,_⟩:=h; cases h
 ·injection hv with hv1 _ _
  have hg:=Option.some.inj hv1
  injection hg with hg
  subst hg
  simp [World.frozen?,hh]
structure Grp {α:Type} (enc:α→List Value) (k:Nat) (w:World) (base L n:Nat) (eL e:TypeId) (vs:List Value) (rows:Nat→List α):Prop where
 own:w.ownsRow base eL 1 (.slice (some ⟨L,0,none⟩) n n) n vs
 row:∀ s,s < n→w.ownsRow base e k (vs.getD s nilV) (rows s).length (encs enc (rows s))
 ap:∀ s s',s < n→s' < n→s≠s'→Apart (vs.getD s nilV) (vs.getD s' nilV)
section
variable {α:Type} {enc:α→List Value} {k:Nat} {w w':World} {base L n:Nat} {eL e:TypeId} {vs:List Value} {rows:Nat→List α}
theorem Grp.call (h:Grp enc k w base L n eL e vs rows) (hb:Below w.heap.size w w'):Grp enc k w' base L n eL e vs rows :=
 ⟨own_below h.own hb,fun s hs => own_below (h.row s hs) hb,h.ap⟩
theorem Grp.kept (h:Grp enc k w base L n eL e vs rows) {row:Option Nat} (hg:w.grownBy w' row) (h1:row≠some L) (h2:∀ s,s < n→(vs.getD s nilV).ownBlock = none∨(vs.getD s nilV).ownBlock≠row):Grp enc k w' base L n eL e vs rows :=
 ⟨h.own.kept hg (.inr fun e => h1 e.symm),fun s hs => (h.row s hs).kept hg (h2 s hs),h.ap⟩
theorem Grp.set (h:Grp enc k w base L n eL e vs rows) {p:Addr} (h1:p.block≠L) (h2:∀ s,s < n→(vs.getD s nilV).ownBlock≠some p.block) (u:Value):Grp enc k (w.setCell p u) base L n eL e vs rows :=
 ⟨own_setCell h.own (fun e => h1 (Option.some.inj e).symm) u,fun s hs => own_setCell (h.row s hs) (h2 s hs) u,h.ap⟩
theorem getD_set_same (l:List Value) (s:Nat) (v d:Value) (h:s < l.length):(l.set s v).getD s d = v:=by
 rw [List.getD_eq_getElem?_getD,List.getElem?_set_self h]; rfl
theorem getD_set_other (l:List Value) (s t:Nat) (v d:Value) (h:s≠t):(l.set s v).getD t d = l.getD t d:=by
 rw [List.getD_eq_getElem?_getD,List.getD_eq_getElem?_getD,List.getElem?_set_ne h]
theorem Grp.put (h:Grp enc k w base L n eL e vs rows) (hne:eL≠e) (s:Nat) (hs:s < n) {v':Value} (x:α) (hg:w.grownBy w' (vs.getD s nilV).ownBlock) (ho:w'.ownsRow base e k v' ((rows s).length + 1) (encs enc (rows s) ++ enc x)) (hl:v'.ownBlock = (vs.getD s nilV).ownBlock∨v'.ownBlock = some w.heap.size) :
    Grp enc k (w'.setCell ⟨L,s,none⟩ v') base L n eL e (vs.set s v') (fun t => if t = s then rows s ++ [x] else rows t):=by
 have hlen:vs.length = n:=by have:=h.own.1; omega
 have hrs:=h.row s hs
 have ko:=h.own.kept hg (apart_types h.own hrs hne).or_none
 have ho':w'.ownsRow base e k v' (rows s ++ [x]).length (encs enc (rows s ++ [x])):=by rw [encs_snoc,List.length_append]; exact ho
 have hL:∀ {v:Value} {m:Nat} {ys:List Value},w'.ownsRow base e k v m ys→v.ownBlock≠some L:=fun {v m ys} hv => (apart_types ko hv hne) L rfl
 refine ⟨own_setAt ko s hs v',fun t ht => ?_,fun t t' ht ht' htt => ?_⟩
 ·by_cases e1:t = s
  ·subst e1
   rw [getD_set_same _ _ _ _ (by omega),if_pos rfl]
   exact own_setCell ho' (hL ho') _
  ·rw [getD_set_other _ _ _ _ _ (Ne.symm e1),if_neg e1]
   have kt:=(h.row t ht).kept hg (h.ap t s ht hs e1).or_none
   exact own_setCell kt (hL kt) _
 ·by_cases e1:t = s
  ·subst e1
   rw [getD_set_same _ _ _ _ (by omega),getD_set_other _ _ _ _ _ htt]
   intro g hg1 hg2
   rcases hl with h1 | h1
   ·exact h.ap t t' ht ht' htt g (by rw [← h1]; exact hg1) hg2
   ·rw [h1] at hg1
    have:=Option.some.inj hg1
    have:=(own_lt (h.row t' ht') g hg2).2
    omega
  ·by_cases e2:t' = s
   ·subst e2
    rw [getD_set_same _ _ _ _ (by omega),getD_set_other _ _ _ _ _ (Ne.symm e1)]
    intro g hg1 hg2
    rcases hl with h1 | h1
    ·exact h.ap t t' ht ht' htt g hg1 (by rw [← h1]; exact hg2)
    ·rw [h1] at hg2
     have:=Option.some.inj hg2
     have:=(own_lt (h.row t ht) g hg1).2
     omega
   ·rw [getD_set_other _ _ _ _ _ (Ne.symm e1),getD_set_other _ _ _ _ _ (Ne.symm e2)]
    exact h.ap t t' ht ht' htt
end
end Go.Proofs.YtcondkihpmmnnaaGreatDoor
