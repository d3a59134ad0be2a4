/- Lemmas, part 23 of 39. No condition. -/
import Derived.Test.YtcondkihpmmnnaaGreatDoorUniqueP20
import Derived.Test.YtcondkihpmmnnaaGreatDoorUniqueP14
import Derived.Test.YtcondkihpmmnnaaGreatDoorUniqueP02
import Derived.Test.YtcondkihpmmnnaaGreatDoorUniqueP15
import Derived.Test.YtcondkihpmmnnaaGreatDoorUniqueP11
import Derived.Test.YtcondkihpmmnnaaGreatDoorUniqueP22
import Derived.Test.YtcondkihpmmnnaaGreatDoorUniqueP06
namespace Go.Proofs.YtcondkihpmmnnaaGreatDoor
open Go.RowKit Go.Sort
theorem ChW.below {c:Ch} {w wr:World} {vS vE vA:Value} {S E:List Tp} {A:List Ar} {ov:Bool} (h:ChW c wr vS vE vA S E A ov) {B:Nat} (hb:Below B w c.w) (hP:∀ k,k < B→c.P k):Below B w wr :=
 ⟨h.os.trans hb.os,h.tape.trans hb.tape,h.output.trans hb.output,Nat.le_trans hb.size h.size,fun k hk => (h.keep k (hP k hk)).trans (hb.block k hk)⟩
theorem fck_parts {t:Fs} (h:fckB t = true):0≤t.n∧t.n≤1024∧(t.starts.length≤1024∧∀ x∈t.starts,0≤x.st∧x.st < t.n∧x.out.size≤1024)∧(t.ends.length≤1024∧∀ x∈t.ends,0≤x.st∧x.st < t.n∧x.out.size≤1024) ∧
    (t.arcs.length≤16384∧∀ x∈t.arcs,0≤x.fr∧x.fr < t.n∧0≤x.to∧x.to < t.n∧x.out.size≤1024∧x.set≠St.none):=by
 unfold fckB tipsB at h
 simp only [Bool.and_eq_true,decide_eq_true_eq,List.all_eq_true] at h
 obtain ⟨⟨⟨⟨⟨h1,h2⟩,h3⟩,h4,h5⟩,h6,h7⟩,h8⟩:=h
 refine ⟨h1,h2,⟨h4,fun x hx => ?_⟩,⟨h6,fun x hx => ?_⟩,h3,fun x hx => ?_⟩
 ·have:=h5 x hx
  unfold tipB stB' at this
  simp only [Bool.and_eq_true,decide_eq_true_eq] at this
  exact ⟨this.1.1,this.1.2,this.2⟩
 ·have:=h7 x hx
  unfold tipB stB' at this
  simp only [Bool.and_eq_true,decide_eq_true_eq] at this
  exact ⟨this.1.1,this.1.2,this.2⟩
 ·have:=h8 x hx
  unfold arcB stB' at this
  simp only [Bool.and_eq_true,decide_eq_true_eq,bne_iff_ne] at this
  exact ⟨this.1.1.1.1,this.1.1.1.2,this.1.1.2.1,this.1.1.2.2,this.2,this.1.2⟩
theorem ChW.fst {c:Ch} {wr:World} {A1 A2 A3:Option Addr} {k1 k2 k3 c1 c2 c3:Nat} {S E:List Tp} {A:List Ar} {ov:Bool} {N:Int} (h:ChW c wr (.slice A1 k1 c1) (.slice A2 k2 c2) (.slice A3 k3 c3) S E A ov) (hn:0≤N∧N≤1024) (hS:TipsB N S) (hE:TipsB N E) (hA:ArcsB N A) :
    FstAt wr wr.heap.size ⟨N,S,E,A⟩ (.agg #[.int .i64 N,.slice A1 k1 c1,.slice A2 k2 c2,.slice A3 k3 c3]):=by
 obtain ⟨B1,d1,e1,u1,m1,_⟩:=own_form h.oS
 obtain ⟨B2,d2,e2,u2,m2,_⟩:=own_form h.oE
 obtain ⟨B3,d3,e3,u3,m3,_⟩:=own_form h.oA
 injection e1 with e1 f1 g1
 injection e2 with e2 f2 g2
 injection e3 with e3 f3 g3
 subst e1 f1 g1 e2 f2 g2 e3 f3 g3
 have tw:∀ {l:List Tp},TipsB N l→∀ x∈l,TpW x:=fun {l} hl x hx => by
  obtain ⟨h1,h2,h3⟩:=hl.2 x hx
  exact ⟨by omega,by omega,by unfold maxLen; omega⟩
 refine ⟨A1,c1,A2,c2,A3,c3,rfl,u1,u2,u3,m1,m2,m3,by show (-9223372036854775808:Int)≤N; omega,by show N≤(9223372036854775807:Int); omega,Reads.of_own h.oS,tw hS,Reads.of_own h.oE,tw hE,Reads.of_own h.oA,fun x hx => ?_⟩
 obtain ⟨h1,h2,h3,h4,h5,h6,_⟩:=hA.2 x hx
 exact ⟨by omega,by omega,by omega,by omega,h6,by unfold maxLen; omega⟩
theorem fckB_of {N:Int} {S E:List Tp} {A:List Ar} (hn:0≤N∧N≤1024) (hS:TipsB N S) (hE:TipsB N E) (hA:ArcsB N A):fckB ⟨N,S,E,A⟩ = true:=by
 have tb:∀ {l:List Tp},TipsB N l→tipsB l N = true:=fun {l} hl => by
  unfold tipsB
  rw [Bool.and_eq_true,decide_eq_true_iff,List.all_eq_true]
  refine ⟨hl.1,fun x hx => ?_⟩
  obtain ⟨h1,h2,h3⟩:=hl.2 x hx
  unfold tipB stB'
  simp only [Bool.and_eq_true,decide_eq_true_eq]
  exact ⟨⟨h1,h2⟩,h3⟩
 unfold fckB
 simp only [Bool.and_eq_true,decide_eq_true_eq,List.all_eq_true]
 refine ⟨⟨⟨⟨⟨hn.1,hn.2⟩,hA.1⟩,tb hS⟩,tb hE⟩,fun x hx => ?_⟩
 obtain ⟨h1,h2,h3,h4,h5,_,h7⟩:=hA.2 x hx
 unfold arcB stB'
 simp only [Bool.and_eq_true,decide_eq_true_eq,bne_iff_ne]
 exact ⟨⟨⟨⟨h1,h2⟩,h3,h4⟩,h7⟩,h5⟩
theorem right_sortF {t:Fs} (h:fckB t = true):Right (sortF t):=by
 obtain ⟨r1,r2,r3,r4⟩:=fckB_right h
 exact ⟨r1,fun x hx => r2 x ((ordT_mem x _).1 hx),fun x hx => r3 x ((ordT_mem x _).1 hx),fun x hx => r4 x ((ordA_mem x _).1 hx)⟩
structure CmW (w wr:World) (G L E M2 n baA baE:Nat) (csA csB cs:Array Value) (vs ves:List Value) (rowsA:Nat→List Ar) (rowsE:Nat→List Tp):Prop where
 ja:Blk wr w.heap.size 32 csA
 jb:Blk wr (w.heap.size + 1) 32 csB
 jr:Blk wr (w.heap.size + 1 + 1) 32 #[.int .i64 0,.slice none 0 0,.slice none 0 0,.slice none 0 0]
 ga:Grp encA 8 wr baA L n 30 61 vs rowsA
 ge:Grp encT 2 wr baE E n 29 54 ves rowsE
 sa:Seen 61 encA ArW wr M2 []
 box:Blk wr G 73 cs
 bel:Below w.heap.size w wr
 lA:w.heap.size≤baA
 lE:w.heap.size≤baE
 lG:w.heap.size + 1 + 1 < G
 lM:w.heap.size≤M2
section
variable {w wr w':World} {G L E M2 n baA baE:Nat} {csA csB cs:Array Value} {vs ves:List Value} {rowsA:Nat→List Ar} {rowsE:Nat→List Tp}
theorem Seen.lt {α:Type} {T:TypeId} {enc:α→List Value} {ok:α→Prop} {w:World} {b:Nat} {l:List α} (h:Seen T enc ok w b l):b < w.heap.size:=by
 obtain ⟨_,_,⟨es,clock,hb,_⟩,_⟩:=h
 rcases Nat.lt_or_ge b w.heap.size with h | h
 ·exact h
 ·rw [Array.getElem?_eq_none h] at hb; cases hb
theorem CmW.call (h:CmW w wr G L E M2 n baA baE csA csB cs vs ves rowsA rowsE) (hb:Below wr.heap.size wr w'):CmW w w' G L E M2 n baA baE csA csB cs vs ves rowsA rowsE:=by
 have hz:=h.bel.size
 exact ⟨h.ja.below hb h.ja.lt,h.jb.below hb h.jb.lt,h.jr.below hb h.jr.lt,h.ga.call hb,h.ge.call hb,h.sa.below hb (Nat.le_refl _),h.box.below hb h.box.lt,h.bel.trans (hb.mono hz),h.lA,h.lE,h.lG,h.lM⟩
theorem CmW.setG (h:CmW w wr G L E M2 n baA baE csA csB cs vs ves rowsA rowsE) (i:Nat) (u:Value):CmW w (wr.setCell ⟨G,i,none⟩ u) G L E M2 n baA baE csA csB (cs.setIfInBounds i u) vs ves rowsA rowsE:=by
 have lG:=h.lG
 refine ⟨h.ja.far (p:=⟨G,i,none⟩) (by simp; omega) _,h.jb.far (p:=⟨G,i,none⟩) (by simp; omega) _,h.jr.far (p:=⟨G,i,none⟩) (by simp; omega) _,h.ga.set (p:=⟨G,i,none⟩) ?_ (fun s hs => own_blk (h.ga.row s hs) h.box (by decide)) u,h.ge.set (p:=⟨G,i,none⟩) ?_ (fun s hs => own_blk (h.ge.row s hs) h.box (by decide)) u,
  h.sa.setCell (fun e => h.sa.blk_ne h.box e.symm) _,h.box.set_ i u,h.bel.setCell (p:=⟨G,i,none⟩) (by show _≤G; omega) _,h.lA,h.lE,h.lG,h.lM⟩
 ·exact fun e => own_blk h.ga.own h.box (by decide) (congrArg some (show L = G from e.symm))
 ·exact fun e => own_blk h.ge.own h.box (by decide) (congrArg some (show E = G from e.symm))
theorem CmW.putE (h:CmW w wr G L E M2 n baA baE csA csB cs vs ves rowsA rowsE) (s:Nat) (hs:s < n) {v':Value} (x:Tp) (hg:wr.grownBy w' (ves.getD s nilV).ownBlock)
    (ho:w'.ownsRow baE 54 2 v' ((rowsE s).length + 1) (encs encT (rowsE s) ++ encT x)) (hl:v'.ownBlock = (ves.getD s nilV).ownBlock∨v'.ownBlock = some wr.heap.size) :
    CmW w (w'.setCell ⟨E,s,none⟩ v') G L E M2 n baA baE csA csB cs vs (ves.set s v') rowsA (fun t => if t = s then rowsE s ++ [x] else rowsE t):=by
 have lG:=h.lG
 have lE:=h.lE
 have hr:=h.ge.row s hs
 have hEl:w.heap.size≤E:=by
  have:=(own_lt h.ge.own E rfl).1
  omega
 have nE:∀ {g:Nat} {T:TypeId} {c:Array Value},Blk wr g T c→54≠T→(ves.getD s nilV).ownBlock≠some g:=fun hb hne => own_blk hr hb hne
 have kb:∀ {g:Nat} {T:TypeId} {c:Array Value},Blk wr g T c→54≠T→29≠T→Blk (w'.setCell ⟨E,s,none⟩ v') g T c:=fun {g T c} hb h1 h2 =>
  (blk_keep hb hg (nE hb h1)).far (p:=⟨E,s,none⟩) (fun e => own_blk h.ge.own hb h2 (by rw [e]; rfl)) _
 have hsm:=h.sa.kept hg (h.sa.ne hr)
 have hge:=h.ge.own.kept hg (apart_types h.ge.own hr (by decide)).or_none
 refine ⟨kb h.ja (by decide) (by decide),kb h.jb (by decide) (by decide),kb h.jr (by decide) (by decide),?_,h.ge.put (by decide) s hs x hg ho hl,hsm.setCell (fun e => hsm.ne hge (by rw [e]; rfl)) _,kb h.box (by decide) (by decide),?_,h.lA,h.lE,h.lG,h.lM⟩
 ·have hk:=h.ga.kept hg (fun e => by
    have:=apart_types hr h.ga.own (by decide) L e
    exact this rfl) (fun t ht => (apart_types (h.ga.row t ht) hr (by decide)).or_none)
  refine hk.set (p:=⟨E,s,none⟩) (fun e => ?_) (fun t ht e => ?_) _
  ·exact apart_types hk.own hge (by decide) L rfl (by show some E = some L; exact congrArg some e)
  ·exact apart_types (hk.row t ht) hge (by decide) E e rfl
 ·exact ((h.bel).grown hg h.bel.size (fun k hk => by have:=(own_lt hr k hk).1; omega)).setCell (p:=⟨E,s,none⟩) hEl _
theorem CmW.grpA (h:CmW w wr G L E M2 n baA baE csA csB cs vs ves rowsA rowsE) {M0 M1:Nat} {l0 l1:List Tp} (h0:Seen 54 encT TpW wr M0 l0) (h1:Seen 54 encT TpW wr M1 l1) :
    GrpP (fun k => k < wr.heap.size∧k≠G∧k≠M0∧k≠M1∧k≠M2) encA 8 wr L n rowsA:=by
 have key:∀ {base:Nat} {e:TypeId} {size m:Nat} {v:Value} {xs:List Value},wr.ownsRow base e size v m xs→e≠73→∀ g,v.ownBlock = some g→g < wr.heap.size∧g≠G∧g≠M0∧g≠M1∧g≠M2:=fun {base e size m v xs} ho hne g hg =>
  ⟨(own_lt ho g hg).2,fun e => own_blk ho h.box hne (by rw [hg,e]),fun e => h0.ne ho (by rw [hg,e]),fun e => h1.ne ho (by rw [hg,e]),fun e => h.sa.ne ho (by rw [hg,e])⟩
 exact GrpP.of_grp h.ga (key h.ga.own (by decide) L rfl) fun s g hs hg => key (h.ga.row s hs) (by decide) g hg
theorem CmW.grpE (h:CmW w wr G L E M2 n baA baE csA csB cs vs ves rowsA rowsE) {M0 M1:Nat} {l0 l1:List Tp} (h0:Seen 54 encT TpW wr M0 l0) (h1:Seen 54 encT TpW wr M1 l1) :
    GrpP (fun k => k < wr.heap.size∧k≠G∧k≠M0∧k≠M1∧k≠M2) encT 2 wr E n rowsE:=by
 have key:∀ {base:Nat} {e:TypeId} {size m:Nat} {v:Value} {xs:List Value},wr.ownsRow base e size v m xs→e≠73→∀ g,v.ownBlock = some g→g < wr.heap.size∧g≠G∧g≠M0∧g≠M1∧g≠M2:=fun {base e size m v xs} ho hne g hg =>
  ⟨(own_lt ho g hg).2,fun e => own_blk ho h.box hne (by rw [hg,e]),fun e => h0.ne ho (by rw [hg,e]),fun e => h1.ne ho (by rw [hg,e]),fun e => h.sa.ne ho (by rw [hg,e])⟩
 exact GrpP.of_grp h.ge (key h.ge.own (by decide) E rfl) fun s g hs hg => key (h.ge.row s hs) (by decide) g hg
end
end Go.Proofs.YtcondkihpmmnnaaGreatDoor
namespace Go.Proofs.YtcondkihpmmnnaaGreatDoor
open Go.RowKit Go.Sort
def StartsPost (c:Ch) (a b:Fs) (vE vA:Value) (E:List Tp) (A:List Ar) (e:Ending) (w':World):Prop :=
 e = .returned (.tuple #[])∧∃ v S ov,ChW c w' v vE vA S E A ov∧Puts S ov (startsL a b)∧TipsB (a.n * b.n) S
set_option maxRecDepth 100000 in
set_option maxHeartbeats 8000000 in
theorem starts_any (c:Ch) (a b:Fs) (HE:ChE c a b) (wr:World) (vS vE vA:Value) (E:List Tp) (A:List Ar) (HW:ChW c wr vS vE vA [] E A false) :
    Calls Tryz.prog 24 #[.pointer (some ⟨c.G,0,none⟩)] wr (StartsPost c a b vE vA E A):=by
 obtain ⟨A1,c1,haS,hR1⟩:=HE.aS
 obtain ⟨A2,c2,hbS,hR2⟩:=HE.bS
 have HP:=Lib.hid (fun w' v S ov (h:ChW c w' v vE vA S E A ov) (h2:Puts S ov (startsL a b)) (h3:TipsB (a.n * b.n) S) => show StartsPost c a b vE vA E A (.returned (.tuple #[])) w' from ⟨rfl,v,S,ov,h,h2,h3⟩)
 have hHs:=HE.hs
 have hKs:=HE.ks
 have hN:=HE.n
 have hBn:=HE.bn
 have hmul:=HE.mul
 have ha0:=HE.a0
 have hcn:=HE.hn
 have HS:=Lib.hid hHs.2
 have KS:=Lib.hid hKs.2
 have hn1:=hHs.1
 have hn2:=hKs.1
 have HN:=Lib.hid hN
 have HBN:=Lib.hid hBn
 have HAS:=Lib.hid haS
 have HBS:=Lib.hid hbS
 have HMUL:=Lib.hid hmul
 have HA0:=Lib.hid ha0
 have b1:∀ w' v S ov,ChW c w' v vE vA S E A ov→w'.cell? ⟨c.G,1,none⟩ = some (.slice A1 a.starts.length c1):=fun w' v S ov h => by rw [← haS]; exact h.box.cell 1
 have b5:∀ w' v S ov,ChW c w' v vE vA S E A ov→w'.cell? ⟨c.G,5,none⟩ = some (.slice A2 b.starts.length c2):=fun w' v S ov h => by rw [← hbS]; exact h.box.cell 5
 have b4:∀ w' v S ov,ChW c w' v vE vA S E A ov→w'.cell? ⟨c.G,4,none⟩ = some (.int .i64 b.n):=fun w' v S ov h => by rw [← hBn]; exact h.box.cell 4
 have b17:∀ w' v S ov,ChW c w' v vE vA S E A ov→w'.cell? ⟨c.G,17,none⟩ = some (.bool ov):=fun w' v S ov h => h.box.cell 17
 have B1:=Lib.hid b1
 have B5:=Lib.hid b5
 have B4:=Lib.hid b4
 have B17:=Lib.hid b17
 clear b1 b5 b4 b17 hHs hKs hN hBn haS hbS hmul ha0
 generalize hl1:a.starts.length = n1 at *
 generalize hl2:b.starts.length = n2 at *
 have HL1:=Lib.hid hl1
 have HL2:=Lib.hid hl2
 clear hl1 hl2
 have c1':=B1.out _ _ _ _ HW
 go_enter Tryz.func24,Tryz.ntmps24
 go_wp2
 clear c1'
 go_loopw [14] (fun i w1 => ∃ (j:Nat) (v:Value) (S:List Tp),j≤n1∧i = .int .i64 ((j:Nat):Int)∧ChW c w1 v vE vA S E A false∧Puts S false ((a.starts.take j).flatMap fun q => b.starts.flatMap (stT b q))∧TipsB (a.n * b.n) S) (fun i _ => n1 - (intOf i).toNat)
 case atStart => exact ⟨0,vS,[],Nat.zero_le _,rfl,HW,Puts.nil,⟨Nat.zero_le _,fun _ h => (List.not_mem_nil h).elim⟩⟩
 case round =>
  clear HW
  obtain ⟨j,v1,S1,hj,rfl,HW1,hp1,ht1⟩:=hrel
  have Hp1:=Lib.hid hp1
  have Ht1:=Lib.hid ht1
  clear hp1 ht1
  by_cases hlt:j < n1
  ·have hi1:(0:Int)≤(j:Int):=by omega
   have hi2:(j:Int) < (n1:Int):=by omega
   obtain ⟨g,o,rfl,hgB,d0,d1⟩:=tip_cell ((hR1.kept HW1.keep).reads (B:=wr.heap.size) fun k hk => Nat.lt_of_lt_of_le hk.1 HW1.size) j hlt
   have hq:=HS.out _ (getD_in a.starts tp0 j (by have:=HL1.out; omega))
   have Hpre:=Lib.hid (flatMap_next a.starts tp0 (fun q => b.starts.flatMap (stT b q)) j (by have:=HL1.out; omega))
   generalize a.starts.getD j tp0 = q at *
   obtain ⟨qs,qo⟩:=q
   simp only at d0 d1 hq
   have HW2:=HW1.call ((Below.refl wr.heap.size wr).alloc (Nat.le_refl _) (.cells #[.int .i64 qs,.string qo] 54))
   have HG3:=Blk.new wr 54 #[.int .i64 qs,.string qo]
   have HF3:Fr c (wr.alloc (.cells #[.int .i64 qs,.string qo] 54)) v1 wr.heap.size:=⟨HW1.size,by simp,fun e => by have:=(own_lt HW1.oS _ e).2; omega⟩
   have c5:=B5.out _ _ _ _ HW2
   clear HW1
   go_wp2
   generalize wr.heap.size = G3 at *
   clear d0 d1 c5
   go_loopw [24] (fun i w2 => ∃ (k:Nat) (v:Value) (S:List Tp),k≤n2∧i = .int .i64 ((k:Nat):Int)∧ChW c w2 v vE vA S E A false∧Puts S false (((a.starts.take j).flatMap fun q => b.starts.flatMap (stT b q)) ++ (b.starts.take k).flatMap (stT b ⟨qs,qo⟩))∧TipsB (a.n * b.n) S∧Blk w2 G3 54 #[.int .i64 qs,.string qo]∧Fr c w2 v G3) (fun i _ => n2 - (intOf i).toNat)
   case atStart => exact ⟨0,v1,S1,Nat.zero_le _,rfl,HW2,by rw [List.take_zero,List.flatMap_nil,List.append_nil]; exact Hp1.out,Ht1.out,HG3,HF3⟩
   case round =>
    clear HW2 HG3 HF3
    obtain ⟨k,v2,S2,hk,rfl,HW2,hp2,ht2,HG3,HF3⟩:=hrel
    have Hp2:=Lib.hid hp2
    have Ht2:=Lib.hid ht2
    clear hp2 ht2
    by_cases hlt2:k < n2
    ·have hk1:(0:Int)≤(k:Int):=by omega
     have hk2:(k:Int) < (n2:Int):=by omega
     obtain ⟨g',o',rfl,hgB',e0,e1⟩:=tip_cell ((hR2.kept HW2.keep).reads (B:=wr.heap.size) fun k hk => Nat.lt_of_lt_of_le hk.1 HW2.size) k hlt2
     have hr:=KS.out _ (getD_in b.starts tp0 k (by have:=HL2.out; omega))
     have Hpre2:=Lib.hid (flatMap_next b.starts tp0 (stT b ⟨qs,qo⟩) k (by have:=HL2.out; omega))
     generalize b.starts.getD k tp0 = r at *
     obtain ⟨rs,ro⟩:=r
     simp only at e0 e1 hr
     have LB:=(Below.refl wr.heap.size wr).alloc (Nat.le_refl _) (.cells #[.int .i64 rs,.string ro] 54)
     have HW3:=HW2.call LB
     have HG5:=Blk.new wr 54 #[.int .i64 rs,.string ro]
     have HF5:Fr c (wr.alloc (.cells #[.int .i64 rs,.string ro] 54)) v2 wr.heap.size:=⟨HW2.size,by simp,fun e => by have:=(own_lt HW2.oS _ e).2; omega⟩
     have HG3':=(Stays.call (c:=c) (v:=v2) LB).blk HG3 HF3
     have HF3':=((Stays.call (c:=c) (v:=v2) LB) _ HF3).1
     have hG31:=HG3'.cell 1
     have hG50:=HG5.cell 0
     obtain ⟨y,rfl⟩:∃ y:Nat,rs = (y:Int):=⟨_,(Int.toNat_of_nonneg hr.1).symm⟩
     have hy:y < c.n:=by have:=HN.out; omega
     have hC:=chWaysG_any HE _ v2 vE vA S2 E A HW3 y qo hy hq.2.2
     have hv2:∀ g,v2.ownBlock = some g→g < (wr.alloc (.cells #[.int .i64 (y:Int),.string ro] 54)).heap.size:=fun g e => (own_lt HW3.oS g e).2
     have hz3:=HW3.size
     clear HW2 HG3 HF3 HW3 LB hgB'
     go_wp2_with fail
     refine hC.mono ?_
     rintro e w3 ⟨Aw,cw,l,ov3,rfl,hl3,hst,hRw,HW4,hok,hel⟩
     have HG3:=(hst v2).blk HG3' HF3'
     have HF3:=(hst v2 _ HF3').1
     have HG5':=(hst v2).blk HG5 HF5
     have HF5':=(hst v2 _ HF5).1
     have hRf:=reads_fr hv2 hz3 hRw
     have HOK:=Lib.hid hok
     have HEL:=Lib.hid hel
     clear hC hst hRw hok hel hG31 hG50 e0 e1 HG3' HF3' HG5 HF5 hv2 hz3
     generalize hml:l.length = m at *
     have HML:=Lib.hid hml
     generalize wr.heap.size = G5 at *
     clear hml
     go_wp2
     go_loopw [35] (fun i w4 => ∃ (x:Nat) (v:Value) (S:List Tp) (ov:Bool),x≤m∧i = .int .i64 ((x:Nat):Int)∧ChW c w4 v vE vA S E A ov∧Puts S ov ((((a.starts.take j).flatMap fun q => b.starts.flatMap (stT b q)) ++ (b.starts.take k).flatMap (stT b ⟨qs,qo⟩)) ++ (l.take x).map fun u => some (stX b ⟨qs,qo⟩ ⟨(y:Int),ro⟩ u))∧TipsB (a.n * b.n) S∧Blk w4 G3 54 #[.int .i64 qs,.string qo]∧Fr c w4 v G3∧Blk w4 G5 54 #[.int .i64 (y:Int),.string ro]∧Fr c w4 v G5∧ReadsP (Fr c w4 v) w4 2 Aw m (encs encT l)∧(ov = false→ov3 = false)) (fun i _ => m - (intOf i).toNat)
     case atStart => exact ⟨0,v2,S2,ov3,Nat.zero_le _,rfl,HW4,by rw [List.take_zero,List.map_nil,List.append_nil]; exact fun h => by (have:=Hp2.out); exact this rfl,Ht2.out,HG3,HF3,HG5',HF5',hRf,id⟩
     case round =>
      clear HW4 HG3 HF3 HG5' HF5' hRf
      obtain ⟨x,v4,S4,ov4,hx,rfl,HW4,hp4,ht4,HG3,HF3,HG5,HF5,hRf,hov⟩:=hrel
      have Hp4:=Lib.hid hp4
      have Ht4:=Lib.hid ht4
      have Hov:=Lib.hid hov
      clear hp4 ht4 hov
      by_cases hlt3:x < m
      ·have hx1:(0:Int)≤(x:Int):=by omega
       have hx2:(x:Int) < (m:Int):=by omega
       obtain ⟨gw,ow,rfl,hgw,u0,u1⟩:=tip_cell (hRf.reads (B:=wr.heap.size) fun k hk => hk.2.1) x hlt3
       have hp:=HEL.out _ (getD_in l tp0 x (by have:=HML.out; omega))
       have Hpre3:=Lib.hid (map_next l tp0 (fun u => some (stX b ⟨qs,qo⟩ ⟨(y:Int),ro⟩ u)) x (by have:=HML.out; omega))
       generalize l.getD x tp0 = p at *
       obtain ⟨ps,po⟩:=p
       simp only at u0 u1 hp
       have hpl:=pair_lt hq.1 hq.2.1 hp.1 (show ps < b.n by have:=HN.out; omega)
       have hm2:=HMUL.out
       have hb0:0≤b.n:=by have:=HN.out; omega
       have LB:=(Below.refl wr.heap.size wr).alloc (Nat.le_refl _) (.cells #[.int .i64 ps,.string po] 54)
       have HW5:=HW4.call LB
       have HG7:=Blk.new wr 54 #[.int .i64 ps,.string po]
       have HF7:Fr c (wr.alloc (.cells #[.int .i64 ps,.string po] 54)) v4 wr.heap.size:=⟨HW4.size,by simp,fun e => by have:=(own_lt HW4.oS _ e).2; omega⟩
       have ST:=Stays.call (c:=c) (v:=v4) LB
       have HG3':=ST.blk HG3 HF3
       have HG5':=ST.blk HG5 HF5
       have HF3':=(ST _ HF3).1
       have HF5':=(ST _ HF5).1
       have HR':=ST.reads hRf
       have k30:=cell_regrown (HG3'.cell 0)
       have k51:=cell_regrown (HG5'.cell 1)
       have k70:=cell_regrown (HG7.cell 0)
       have k71:=cell_regrown (HG7.cell 1)
       have hat:=fun n os => at_gives c.G b.n qs ps _ (cell_regrown (B4.out _ _ _ _ HW5) n os) hq.1 hb0 (by omega) hp.1 (by omega)
       have hT:=fun W (h:ChW c W v4 vE vA S4 E A ov4) => tipS_any c (stX b ⟨qs,qo⟩ ⟨(y:Int),ro⟩ ⟨ps,po⟩) W v4 vE vA S4 E A ov4 h ⟨by show (-9223372036854775808:Int)≤qs * b.n + ps; omega,by show qs * b.n + ps≤(9223372036854775807:Int); omega,by show (ro ++ po).size≤maxLen; unfold maxLen; have e:=congrArg List.length (bl_app ro po); rw [bl_len,List.length_append,bl_len,bl_len] at e; omega⟩ Ht4.out.1
       replace hT:∀ W,ChW c W v4 vE vA S4 E A ov4→Calls Tryz.prog 55 #[.pointer (some ⟨c.G,0,none⟩),.int .i64 0,.pointer (some ⟨c.G,14,none⟩),.agg #[.int .i64 (qs * b.n + ps),.string (ro ++ po)]] W _:=hT
       have HT:=Lib.hid hT
       have hro:ro.size≤1024:=hr.2.2
       have hpo:po.size≤1049600:=hp.2.2
       clear hT HG3 HG5 HF3 HF5 hRf LB HW4 hm2 hpl hgw ST
       go_wp2
       clear u0 u1
       refine wp_region_tail_below 17 (by kernel_rfl) (by kernel_rfl) ?_
       simp only [List.take_succ_cons,List.take_zero,List.drop_succ_cons,List.drop_zero]
       repeat (go_big_quiet_step ((go_at_call 56; exact gives_quiet (hat _ _))))
       refine wpQuiet_nil ?_
       intro w5 hw5
       have LB:=below_of hw5
       have HW6:=HW5.call LB
       have ST:=Stays.call (c:=c) (v:=v4) LB
       have HG3:=ST.blk HG3' HF3'
       have HG5:=ST.blk HG5' HF5'
       have HF3:=(ST _ HF3').1
       have HF5:=(ST _ HF5').1
       have HR6:=ST.reads HR'
       clear hw5 hat k30 k51 k70 k71 HW5 HG3' HG5' HF3' HF5' HR' LB HG7 HF7 ST
       go_wp2_with fail
       refine (HT.out _ HW6).mono ?_
       rintro e w7 ⟨rfl,v7,ST7,HW7⟩
       have HG3':=ST7.blk HG3 HF3
       have HG5':=ST7.blk HG5 HF5
       have HF3':=(ST7 _ HF3).1
       have HF5':=(ST7 _ HF5).1
       have HR7:=ST7.reads HR6
       have hp7:=Hp4.out.tip (stX b ⟨qs,qo⟩ ⟨(y:Int),ro⟩ ⟨ps,po⟩)
       rw [List.append_assoc (_ ++ _),← Hpre3.out] at hp7
       have Hp7:=Lib.hid hp7
       have Ht7:=Lib.hid (Ht4.out.tip (stX b ⟨qs,qo⟩ ⟨(y:Int),ro⟩ ⟨ps,po⟩) ov4 (by
        have hpl:=pair_lt hq.1 hq.2.1 hp.1 (show ps < b.n by have:=HN.out; omega)
        exact ⟨hpl.1,hpl.2.1⟩))
       have Hov7:=Lib.hid (fun h => Hov.out (tipF_false (x:=stX b ⟨qs,qo⟩ ⟨(y:Int),ro⟩ ⟨ps,po⟩) (S:=S4) h))
       clear hp7
       go_wp2
       go_roundw
       case rel => exact ⟨x + 1,v7,_,_,by omega,by go_num,HW7,Hp7.out,Ht7.out,HG3',HF3',HG5',HF5',HR7,Hov7.out⟩
       case measure => simp [intOf]; omega
      ·obtain rfl:x = m:=by omega
       have c17:=B17.out _ _ _ _ HW4
       rcases ov4 with _ | _
       ·have hfin:Puts S4 false (((a.starts.take j).flatMap fun q => b.starts.flatMap (stT b q)) ++ (b.starts.take (k + 1)).flatMap (stT b ⟨qs,qo⟩)):=by
          have:=Hp4.out
          have e:l.take x = l:=List.take_of_length_le (by have:=HML.out; omega)
          obtain ⟨l0,hw0,hl0⟩:=HOK.out (Hov.out rfl)
          rw [e] at this
          rw [Hpre2.out,← List.append_assoc]
          have e2:stT b ⟨qs,qo⟩ ⟨(y:Int),ro⟩ = l.map fun u => some (stX b ⟨qs,qo⟩ ⟨(y:Int),ro⟩ u):=by
           unfold stT
           simp only
           rw [hw0,hl0]
          rw [e2]
          exact this
        have Hfin:=Lib.hid hfin
        clear hfin
        go_wp2
        go_roundw
        case rel => exact ⟨k + 1,v4,S4,by omega,by go_num,HW4,Hfin.out,Ht4.out,HG3,HF3⟩
        case measure => simp [intOf]; omega
       ·go_wp2
        go_end0
        exact HP.out _ _ _ _ HW4 (Puts.over _ _) Ht4.out
    ·obtain rfl:k = n2:=by omega
     have hfin:Puts S2 false ((a.starts.take (j + 1)).flatMap fun q => b.starts.flatMap (stT b q)):=by
      have:=Hp2.out
      have e:b.starts.take k = b.starts:=List.take_of_length_le (by have:=HL2.out; omega)
      rw [e] at this
      rw [Hpre.out]
      exact this
     have Hfin:=Lib.hid hfin
     clear hfin
     go_wp2
     go_roundw
     case rel => exact ⟨j + 1,v2,S2,by omega,by go_num,HW2,Hfin.out,Ht2.out⟩
     case measure => simp [intOf]; omega
  ·obtain rfl:j = n1:=by omega
   have hfin:Puts S1 false (startsL a b):=by
    have:=Hp1.out
    rwa [List.take_of_length_le (by have:=HL1.out; omega)] at this
   have Hfin:=Lib.hid hfin
   clear hfin
   go_wp2
   go_end0
   exact HP.out _ _ _ _ HW1 Hfin.out Ht1.out
end Go.Proofs.YtcondkihpmmnnaaGreatDoor
namespace Go.Proofs.YtcondkihpmmnnaaGreatDoor
def nums:List Nat→Nat→Int
 | [],_ => -1
 | x :: l,s => if s = x then (l.length:Int) else nums l s
def numF (l:List Nat) (s:Nat):Int:=nums l.reverse s
theorem numF_nil (s:Nat):numF [] s = -1:=rfl
theorem numF_snoc (l:List Nat) (x s:Nat):numF (l ++ [x]) s = if s = x then (l.length:Int) else numF l s:=by
 unfold numF
 rw [List.reverse_append]
 show (if s = x then (l.reverse.length:Int) else nums l.reverse s) = _
 rw [List.length_reverse]
theorem nums_ge:∀ (l:List Nat) (s:Nat),-1≤nums l s∧nums l s < (l.length:Int)∧(0≤nums l s↔s∈l)
 | [],s => by simp [nums]
 | x :: l,s => by
  obtain ⟨h1,h2,h3⟩:=nums_ge l s
  unfold nums
  by_cases h:s = x
  ·rw [if_pos h]; subst h; simp; omega
  ·rw [if_neg h]; simp [h,h3]; omega
theorem nums_inj:∀ (l:List Nat) (s z:Nat),0≤nums l s→nums l s = nums l z→s = z
 | [],s,z,h,_ => by simp [nums] at h
 | x :: l,s,z,h,he => by
  unfold nums at h he
  by_cases h1:s = x
  ·rw [if_pos h1] at he
   by_cases h2:z = x
   ·rw [h1,h2]
   ·rw [if_neg h2] at he
    have:=(nums_ge l z).2.1
    omega
  ·rw [if_neg h1] at h he
   by_cases h2:z = x
   ·rw [if_pos h2] at he
    have:=(nums_ge l s).2.1
    omega
   ·rw [if_neg h2] at he
    exact nums_inj l s z h he
theorem nums_sur:∀ (l:List Nat),l.Nodup→∀ k:Nat,k < l.length→∃ s∈l,nums l s = (k:Int)
 | [],_,k,h => by cases h
 | x :: l,hd,k,h => by
  rw [List.nodup_cons] at hd
  by_cases hk:k = l.length
  ·exact ⟨x,List.mem_cons_self,by unfold nums; rw [if_pos rfl,hk]⟩
  ·obtain ⟨s,hs,he⟩:=nums_sur l hd.2 k (by simp at h; omega)
   refine ⟨s,List.mem_cons_of_mem _ hs,?_⟩
   have hne:s≠x:=fun e => by subst e; exact hd.1 hs
   show (if s = x then (l.length:Int) else nums l s) = _
   rw [if_neg hne,he]
theorem numF_ge (l:List Nat) (s:Nat):-1≤numF l s∧numF l s < (l.length:Int)∧(0≤numF l s↔s∈l):=by
 have:=nums_ge l.reverse s
 rw [List.length_reverse,List.mem_reverse] at this
 exact this
theorem numF_inj (l:List Nat) (s z:Nat) (h:0≤numF l s) (he:numF l s = numF l z):s = z:=nums_inj _ _ _ h he
theorem numF_sur (l:List Nat) (hd:l.Nodup) (k:Nat) (hk:k < l.length):∃ s∈l,numF l s = (k:Int):=by
 obtain ⟨s,hs,he⟩:=nums_sur l.reverse (by unfold List.Nodup; rw [List.pairwise_reverse]; exact hd.imp Ne.symm) k (by rw [List.length_reverse]; exact hk)
 exact ⟨s,List.mem_reverse.1 hs,he⟩
def trT (ys:List Nat) (l:List Tp):List Tp:=(l.filter fun x => decide (0≤numF ys x.st.toNat)).map fun x => ⟨numF ys x.st.toNat,x.out⟩
def trA (ys:List Nat) (l:List Ar):List Ar:=(l.filter fun x => decide (0≤numF ys x.fr.toNat∧0≤numF ys x.to.toNat)).map fun x => ⟨numF ys x.fr.toNat,numF ys x.to.toNat,x.set,x.out,x.cp⟩
def trF (t:Fs) (ys:List Nat):Fs:=⟨(ys.length:Int),trT ys t.starts,trT ys t.ends,trA ys t.arcs⟩
theorem trT_next (ys:List Nat) (l:List Tp) (k:Nat) (hk:k < l.length):trT ys (l.take (k + 1)) = trT ys (l.take k) ++ if 0≤numF ys (l.getD k tp0).st.toNat then [⟨numF ys (l.getD k tp0).st.toNat,(l.getD k tp0).out⟩] else []:=by
 unfold trT
 rw [take_next l tp0 k hk,List.filter_append,List.map_append]
 by_cases h:0≤numF ys (l.getD k tp0).st.toNat
 ·rw [if_pos h,List.filter_cons_of_pos (by simpa using h)]; rfl
 ·rw [if_neg h,List.filter_cons_of_neg (by simpa using h)]; simp
theorem trA_next (ys:List Nat) (l:List Ar) (k:Nat) (hk:k < l.length):trA ys (l.take (k + 1)) = trA ys (l.take k) ++ if 0≤numF ys (l.getD k ar0).fr.toNat∧0≤numF ys (l.getD k ar0).to.toNat then [⟨numF ys (l.getD k ar0).fr.toNat,numF ys (l.getD k ar0).to.toNat,(l.getD k ar0).set,(l.getD k ar0).out,(l.getD k ar0).cp⟩] else []:=by
 unfold trA
 rw [take_next l ar0 k hk,List.filter_append,List.map_append]
 by_cases h:0≤numF ys (l.getD k ar0).fr.toNat∧0≤numF ys (l.getD k ar0).to.toNat
 ·rw [if_pos h,List.filter_cons_of_pos (by simpa using h)]; rfl
 ·rw [if_neg h,List.filter_cons_of_neg (by simpa using h)]; simp
theorem trT_len (ys:List Nat) (l:List Tp):(trT ys l).length≤l.length:=by unfold trT; rw [List.length_map]; exact List.length_filter_le _ _
theorem trA_len (ys:List Nat) (l:List Ar):(trA ys l).length≤l.length:=by unfold trA; rw [List.length_map]; exact List.length_filter_le _ _
end Go.Proofs.YtcondkihpmmnnaaGreatDoor
namespace Go.Proofs.YtcondkihpmmnnaaGreatDoor
open Go.RowKit Go.Sort
structure UsInv (w0:World) (base:Act) (n:Nat) (is:List Nat) (a:Act) (W:World) (f:Nat→Nat):Prop where
 nd:is.Nodup
 defers:a.defers = base.defers
 size:a.tmps.size = base.tmps.size
 same:∀ x,x ∉ [9,12,3,4]→a.tmps[x]? = base.tmps[x]?
 bel:Below w0.heap.size w0 W
 dep:8 ∉ is→2 ∉ is∧6 ∉ is∧7 ∉ is
 lt:∀ i∈[2,5,6,7],i ∉ is→w0.heap.size≤f i∧f i < W.heap.size
 ne:∀ i∈[2,5,6,7],∀ j∈[2,5,6,7],i≠j→i ∉ is→j ∉ is→f i≠f j
 m2:2 ∉ is→a.tmps[9]? = some (.slice (some ⟨f 2,0,none⟩) n n)∧W.ownsRow w0.heap.size 55 1 (.slice (some ⟨f 2,0,none⟩) n n) n (List.replicate n nilV)
 m5:5 ∉ is→a.tmps[12]? = some (.slice (some ⟨f 5,0,none⟩) n n)∧W.ownsRow w0.heap.size 55 1 (.slice (some ⟨f 5,0,none⟩) n n) n (List.replicate n nilV)
 m6:6 ∉ is→a.tmps[3]? = some (.pointer (some ⟨f 6,0,none⟩))∧Blk W (f 6) 22 #[if 8∈is then nilV else .slice (some ⟨f 2,0,none⟩) n n]
 m7:7 ∉ is→a.tmps[4]? = some (.pointer (some ⟨f 7,0,none⟩))∧Blk W (f 7) 22 #[nilV]
section
variable {w0 W W':World} {base a:Act} {n:Nat} {is:List Nat} {f:Nat→Nat}
theorem UsInv.make (h:UsInv w0 base n is a W f) (i:Nat) (hi:i∈is) (h4:i∈[2,5,6,7]) (d:Tmp) (hd:d∈[9,12,3,4]) (v:Value) (hb:Below W.heap.size W W') (hlt:W.heap.size < W'.heap.size) (hdo:∀ j∈[2,5,6,7],j≠i→d≠(if j = 2 then 9 else if j = 5 then 12 else if j = 6 then 3 else 4))
    (g2:i = 2→d = 9∧v = .slice (some ⟨W.heap.size,0,none⟩) n n∧W'.ownsRow w0.heap.size 55 1 (.slice (some ⟨W.heap.size,0,none⟩) n n) n (List.replicate n nilV))
    (g5:i = 5→d = 12∧v = .slice (some ⟨W.heap.size,0,none⟩) n n∧W'.ownsRow w0.heap.size 55 1 (.slice (some ⟨W.heap.size,0,none⟩) n n) n (List.replicate n nilV))
    (g6:i = 6→d = 3∧v = .pointer (some ⟨W.heap.size,0,none⟩)∧Blk W' W.heap.size 22 #[nilV])
    (g7:i = 7→d = 4∧v = .pointer (some ⟨W.heap.size,0,none⟩)∧Blk W' W.heap.size 22 #[nilV]) (hsz:∀ x∈[9,12,3,4],x < base.tmps.size) :
    UsInv w0 base n (is.erase i) (a.put (some d) v) W' (fun j => if j = i then W.heap.size else f j):=by
 have hme:∀ j,j ∉ is.erase i↔j = i∨j ∉ is:=fun j => by rw [h.nd.mem_erase_iff]; by_cases e:j = i <;> simp [e]
 have hds:d < a.tmps.size:=by rw [h.size]; exact hsz d hd
 have h8:(8:Nat)∈is.erase i↔(8:Nat)∈is:=by
  rw [h.nd.mem_erase_iff]
  exact ⟨And.right,fun hh => ⟨by rintro rfl; simp at h4,hh⟩⟩
 have hi8:(i = 2∨i = 6∨i = 7)→(8:Nat)∈is:=fun hh => by
  rcases Classical.em ((8:Nat)∈is) with h8 | h8
  ·exact h8
  ·have:=h.dep h8
   rcases hh with rfl | rfl | rfl
   ·exact absurd hi this.1
   ·exact absurd hi this.2.1
   ·exact absurd hi this.2.2
 refine ⟨h.nd.erase i,h.defers,(put_size _).trans h.size,put_agrees hd h.same,h.bel.trans (hb.mono h.bel.size),fun hh => ?_,fun j hj hjn => ?_,fun j hj k hk hjk hjn hkn => ?_,fun hn => ?_,fun hn => ?_,fun hn => ?_,fun hn => ?_⟩
 ·have h8n:(8:Nat) ∉ is:=fun e => hh (h8.2 e)
  have:=h.dep h8n
  exact ⟨(hme _).2 (.inr this.1),(hme _).2 (.inr this.2.1),(hme _).2 (.inr this.2.2)⟩
 ·have hbs:=h.bel.size
  rcases (hme j).1 hjn with e | e
  ·simp only [e,if_true]; exact ⟨hbs,hlt⟩
  ·have:=h.lt j hj e
   by_cases e2:j = i
   ·simp only [e2,if_true]; exact ⟨hbs,hlt⟩
   ·simp only [e2,if_false]; exact ⟨this.1,by omega⟩
 ·rcases (hme j).1 hjn with e | e
  ·subst e
   rcases (hme k).1 hkn with e2 | e2
   ·exact absurd e2.symm hjk
   ·have:=h.lt k hk e2
    simp only [if_true,Ne.symm hjk,if_false]; omega
  ·by_cases ej:j = i
   ·subst ej
    rcases (hme k).1 hkn with e2 | e2
    ·exact absurd e2.symm hjk
    ·have:=h.lt k hk e2
     simp only [if_true,Ne.symm hjk,if_false]; omega
   ·by_cases ek:k = i
    ·subst ek
     have:=h.lt j hj e
     simp only [if_true,ej,if_false]; omega
    ·rcases (hme k).1 hkn with e2 | e2
     ·exact absurd e2 ek
     ·simp only [ej,ek,if_false]
      exact h.ne j hj k hk hjk e e2
 ·rcases (hme 2).1 hn with e | e
  ·obtain ⟨rfl,rfl,ho⟩:=g2 e.symm
   simp only [e,if_true]
   exact ⟨put_same hds _,ho⟩
  ·by_cases ei:(2:Nat) = i
   ·obtain ⟨rfl,rfl,ho⟩:=g2 ei.symm
    simp only [ei,if_true]
    exact ⟨put_same hds _,ho⟩
   ·simp only [ei,if_false]
    obtain ⟨a1,a2⟩:=h.m2 e
    exact ⟨(put_other (hdo 2 (by simp) ei) _).trans a1,own_below a2 hb⟩
 ·by_cases ei:(5:Nat) = i
  ·obtain ⟨rfl,rfl,ho⟩:=g5 ei.symm
   simp only [ei,if_true]
   exact ⟨put_same hds _,ho⟩
  ·rcases (hme 5).1 hn with e | e
   ·exact absurd e ei
   ·simp only [ei,if_false]
    obtain ⟨a1,a2⟩:=h.m5 e
    exact ⟨(put_other (hdo 5 (by simp) ei) _).trans a1,own_below a2 hb⟩
 ·by_cases ei:(6:Nat) = i
  ·obtain ⟨rfl,rfl,ho⟩:=g6 ei.symm
   rw [if_pos (h8.2 (hi8 (.inr (.inl ei.symm))))]
   simp only [ei,if_true]
   exact ⟨put_same hds _,ho⟩
  ·rcases (hme 6).1 hn with e | e
   ·exact absurd e ei
   ·obtain ⟨a1,a2⟩:=h.m6 e
    have e3:(if 8∈is.erase i then nilV else Value.slice (some ⟨(if 2 = i then W.heap.size else f 2),0,none⟩) n n) = (if 8∈is then nilV else .slice (some ⟨f 2,0,none⟩) n n):=by
     by_cases h8i:(8:Nat)∈is
     ·rw [if_pos (h8.2 h8i),if_pos h8i]
     ·rw [if_neg (fun x => h8i (h8.1 x)),if_neg h8i,if_neg (fun e2 => h8i (hi8 (.inl e2.symm)))]
    simp only [ei,if_false]
    rw [e3]
    exact ⟨(put_other (hdo 6 (by simp) ei) _).trans a1,a2.below hb a2.lt⟩
 ·by_cases ei:(7:Nat) = i
  ·obtain ⟨rfl,rfl,ho⟩:=g7 ei.symm
   simp only [ei,if_true]
   exact ⟨put_same hds _,ho⟩
  ·rcases (hme 7).1 hn with e | e
   ·exact absurd e ei
   ·simp only [ei,if_false]
    obtain ⟨a1,a2⟩:=h.m7 e
    exact ⟨(put_other (hdo 7 (by simp) ei) _).trans a1,a2.below hb a2.lt⟩
theorem UsInv.store (h:UsInv w0 base n is a W f) (hi:(8:Nat)∈is) (d2:2 ∉ is) (d6:6 ∉ is) (d7:7 ∉ is) :
    UsInv w0 base n (is.erase 8) a (W.setCell ⟨f 6,0,none⟩ (.slice (some ⟨f 2,0,none⟩) n n)) f:=by
 have hme:∀ j,j ∉ is.erase 8↔j = 8∨j ∉ is:=fun j => by rw [h.nd.mem_erase_iff]; by_cases e:j = 8 <;> simp [e]
 have h8:(8:Nat) ∉ is.erase 8:=(hme 8).2 (.inl rfl)
 have hn:∀ j,j≠8→j ∉ is.erase 8→j ∉ is:=fun j hj hh => ((hme j).1 hh).resolve_left hj
 obtain ⟨b1,b2⟩:=h.m6 d6
 rw [if_pos hi] at b2
 obtain ⟨l6,u6⟩:=h.lt 6 (by simp) d6
 have kb:∀ {v:Value} {e:TypeId} {m:Nat} {xs:List Value},W.ownsRow w0.heap.size e 1 v m xs→e≠22→(W.setCell ⟨f 6,0,none⟩ (.slice (some ⟨f 2,0,none⟩) n n)).ownsRow w0.heap.size e 1 v m xs:=fun ho hne => own_setCell ho (own_blk_ne ho b2 hne) _
 refine ⟨h.nd.erase 8,h.defers,h.size,h.same,h.bel.setCell (p:=⟨f 6,0,none⟩) l6 _,fun _ => ⟨(hme _).2 (.inr d2),(hme _).2 (.inr d6),(hme _).2 (.inr d7)⟩,fun j hj hjn => ?_,fun j hj k hk hjk hjn hkn => ?_,fun hh => ?_,fun hh => ?_,fun hh => ?_,fun hh => ?_⟩
 ·rw [World.size_setCell]
  exact h.lt j hj (hn j (by rintro rfl; simp at hj) hjn)
 ·exact h.ne j hj k hk hjk (hn j (by rintro rfl; simp at hj) hjn) (hn k (by rintro rfl; simp at hk) hkn)
 ·obtain ⟨a1,a2⟩:=h.m2 d2
  exact ⟨a1,kb a2 (by decide)⟩
 ·obtain ⟨a1,a2⟩:=h.m5 (hn 5 (by decide) hh)
  exact ⟨a1,kb a2 (by decide)⟩
 ·rw [if_neg h8]
  exact ⟨b1,b2.set_ 0 _⟩
 ·obtain ⟨a1,a2⟩:=h.m7 d7
  refine ⟨a1,a2.far (p:=⟨f 6,0,none⟩) ?_ _⟩
  exact h.ne 7 (by simp) 6 (by simp) (by decide) d7 d6
end
end Go.Proofs.YtcondkihpmmnnaaGreatDoor
namespace Go.Proofs.YtcondkihpmmnnaaGreatDoor
open Go.RowKit Go.Sort
def onS (l:List Ar) (k s:Nat):List Int:=((l.take k).filter fun a => decide (a.fr = (s:Int))).map Ar.to
def backS (l:List Ar) (k s:Nat):List Int:=((l.take k).filter fun a => decide (a.to = (s:Int))).map Ar.fr
theorem onS_succ (l:List Ar) (k:Nat) (hk:k < l.length) (s:Nat):onS l (k + 1) s = if (s:Int) = (l.getD k ar0).fr then onS l k s ++ [(l.getD k ar0).to] else onS l k s:=by
 unfold onS
 rw [take_next l ar0 k hk,List.filter_append,List.map_append]
 by_cases h:(l.getD k ar0).fr = (s:Int)
 ·rw [if_pos h.symm,List.filter_cons_of_pos (by simpa using h)]; rfl
 ·rw [if_neg (fun x => h x.symm),List.filter_cons_of_neg (by simpa using h)]; simp
theorem backS_succ (l:List Ar) (k:Nat) (hk:k < l.length) (s:Nat):backS l (k + 1) s = if (s:Int) = (l.getD k ar0).to then backS l k s ++ [(l.getD k ar0).fr] else backS l k s:=by
 unfold backS
 rw [take_next l ar0 k hk,List.filter_append,List.map_append]
 by_cases h:(l.getD k ar0).to = (s:Int)
 ·rw [if_pos h.symm,List.filter_cons_of_pos (by simpa using h)]; rfl
 ·rw [if_neg (fun x => h x.symm),List.filter_cons_of_neg (by simpa using h)]; simp
theorem onS_len (l:List Ar) (k s:Nat):(onS l k s).length≤l.length:=by
 unfold onS
 rw [List.length_map]
 exact Nat.le_trans (List.length_filter_le _ _) (by rw [List.length_take]; omega)
theorem backS_len (l:List Ar) (k s:Nat):(backS l k s).length≤l.length:=by
 unfold backS
 rw [List.length_map]
 exact Nat.le_trans (List.length_filter_le _ _) (by rw [List.length_take]; omega)
structure UsW (w wr:World) (Bt Bo Bb L1 L2 n ba:Nat) (cs:Array Value) (v1 v2:List Value) (r1 r2:Nat→List Int):Prop where
 bt:Blk wr Bt 32 cs
 bo:Blk wr Bo 22 #[.slice (some ⟨L1,0,none⟩) n n]
 bb:Blk wr Bb 22 #[.slice (some ⟨L2,0,none⟩) n n]
 g1:Grp encI 1 wr ba L1 n 55 3 v1 r1
 g2:Grp encI 1 wr ba L2 n 55 3 v2 r2
 ne:L1≠L2
 ap:∀ s t,s < n→t < n→Apart (v1.getD s nilV) (v2.getD t nilV)
 bel:Below w.heap.size w wr
 lb:w.heap.size≤ba
section
variable {w wr w':World} {Bt Bo Bb L1 L2 n ba:Nat} {cs:Array Value} {v1 v2:List Value} {r1 r2:Nat→List Int}
theorem UsW.swap (h:UsW w wr Bt Bo Bb L1 L2 n ba cs v1 v2 r1 r2):UsW w wr Bt Bb Bo L2 L1 n ba cs v2 v1 r2 r1 :=
 ⟨h.bt,h.bb,h.bo,h.g2,h.g1,h.ne.symm,fun s t hs ht => (h.ap t s ht hs).symm,h.bel,h.lb⟩
theorem UsW.call (h:UsW w wr Bt Bo Bb L1 L2 n ba cs v1 v2 r1 r2) (hb:Below wr.heap.size wr w'):UsW w w' Bt Bo Bb L1 L2 n ba cs v1 v2 r1 r2 :=
 ⟨h.bt.below hb h.bt.lt,h.bo.below hb h.bo.lt,h.bb.below hb h.bb.lt,h.g1.call hb,h.g2.call hb,h.ne,h.ap,h.bel.trans (hb.mono h.bel.size),h.lb⟩
theorem UsW.put (h:UsW w wr Bt Bo Bb L1 L2 n ba cs v1 v2 r1 r2) (s:Nat) (hs:s < n) {v':Value} (x:Int) (hg:wr.grownBy w' (v1.getD s nilV).ownBlock)
    (ho:w'.ownsRow ba 3 1 v' ((r1 s).length + 1) (encs encI (r1 s) ++ encI x)) (hl:v'.ownBlock = (v1.getD s nilV).ownBlock∨v'.ownBlock = some wr.heap.size) :
    UsW w (w'.setCell ⟨L1,s,none⟩ v') Bt Bo Bb L1 L2 n ba cs (v1.set s v') v2 (fun t => if t = s then r1 s ++ [x] else r1 t) r2:=by
 have lb:=h.lb
 have hlen:v1.length = n:=by have:=h.g1.own.1; omega
 have hr:=h.g1.row s hs
 have hLl:w.heap.size≤L1:=by
  have:=(own_lt h.g1.own L1 rfl).1
  omega
 have kb:∀ {g:Nat} {T:TypeId} {c:Array Value},Blk wr g T c→3≠T→55≠T→Blk (w'.setCell ⟨L1,s,none⟩ v') g T c:=fun {g T c} hb h1 h2 =>
  (blk_keep hb hg (own_blk hr hb h1)).far (p:=⟨L1,s,none⟩) (fun e => own_blk h.g1.own hb h2 (by rw [e]; rfl)) _
 have k2:=h.g2.kept hg (fun e => apart_types hr h.g2.own (by decide) L2 e rfl) (fun t ht => (h.ap s t hs ht).symm.or_none)
 refine ⟨kb h.bt (by decide) (by decide),kb h.bo (by decide) (by decide),kb h.bb (by decide) (by decide),h.g1.put (by decide) s hs x hg ho hl,?_,h.ne,fun a b ha hb => ?_,?_,h.lb⟩
 ·refine k2.set (p:=⟨L1,s,none⟩) h.ne (fun t ht e => ?_) _
  exact apart_types (h.g2.row t ht) h.g1.own (by decide) L1 e rfl
 ·by_cases e1:a = s
  ·subst e1
   rw [getD_set_same _ _ _ _ (by omega)]
   intro g hg1 hg2
   rcases hl with h1 | h1
   ·exact h.ap a b ha hb g (by rw [← h1]; exact hg1) hg2
   ·rw [h1] at hg1
    have:=Option.some.inj hg1
    have:=(own_lt (h.g2.row b hb) g hg2).2
    omega
  ·rw [getD_set_other _ _ _ _ _ (Ne.symm e1)]
   exact h.ap a b ha hb
 ·exact ((h.bel).grown hg h.bel.size (fun k hk => by have:=(own_lt hr k hk).1; omega)).setCell (p:=⟨L1,s,none⟩) hLl _
end
theorem grp_madeU {α:Type} {enc:α→List Value} {k:Nat} {w':World} {base L n:Nat} {eL e:TypeId} {rows:Nat→List α} (h:w'.ownsRow base eL 1 (.slice (some ⟨L,0,none⟩) n n) n (List.replicate n nilV)) (hr:∀ s,rows s = []:=by intro s; rfl):Grp enc k w' base L n eL e (List.replicate n nilV) rows:=by
 have hv:∀ s,(List.replicate n nilV).getD s nilV = nilV:=by
  intro s
  rw [List.getD_eq_getElem?_getD,List.getElem?_replicate]
  split <;> rfl
 refine ⟨h,fun s _ => ?_,fun s t _ _ _ => ?_⟩
 ·rw [hv,hr]; exact World.ownsRow_nil _ _ _ _
 ·rw [hv,hv]; intro g hg; cases hg
theorem slInt_info:(Tryz.prog.info? 55).map (fun i => (i.zero,i.size,i.bytes)) = some (some (.slice none 0 0),1,24):=by kernel_rfl
theorem int_info:(Tryz.prog.info? 3).map (fun i => (i.zero,i.size,i.bytes)) = some (some (.int .i64 0),1,8):=by kernel_rfl
theorem encI_one (z:Int):∀ v∈encI z,v.oneCell' = true:=by
 intro v hv
 simp [encI] at hv
 subst hv; rfl
def UsefulPost (t:Fs) (cs:Array Value) (n:Nat) (w:World) (e:Ending) (w':World):Prop :=
 ∃ Bo Bb L1 L2 ba v1 v2,e = .returned (.func (.func 91) #[] #[.pointer (some ⟨w.heap.size,0,none⟩),.pointer (some ⟨Bo,0,none⟩),.pointer (some ⟨Bb,0,none⟩)])∧UsW w w' w.heap.size Bo Bb L1 L2 n ba cs v1 v2 (onS t.arcs t.arcs.length) (backS t.arcs t.arcs.length)
set_option maxRecDepth 100000 in
set_option maxHeartbeats 8000000 in
theorem useful_any (t:Fs) (A1 A2 A3:Option Addr) (n1 c1 n2 c2 m c3 B n:Nat) (w:World) (HR:Reads w B 8 A3 m (encs encA t.arcs)) (hB:B≤w.heap.size) (hn:n≤1024) (hal:m≤16384) (hok:∀ x∈t.arcs,0≤x.fr∧x.fr < (n:Int)∧0≤x.to∧x.to < (n:Int)) :
    Calls Tryz.prog 59 #[.agg #[.int .i64 (n:Int),.slice A1 n1 c1,.slice A2 n2 c2,.slice A3 m c3]] w (UsefulPost t #[.int .i64 (n:Int),.slice A1 n1 c1,.slice A2 n2 c2,.slice A3 m c3] n w):=by
 have hlm:=reads_len encA_len (by decide) HR
 have Hlm:=Lib.hid hlm
 have HOK:=Lib.hid hok
 have HR':=HR.more hB
 obtain ⟨i0,hi,hy0,hy1,hy2⟩:=info_parts slInt_info
 have hbb:i0.bytes * n≤281474976710656:=by rw [hy2]; omega
 have hmx:n≤maxLen:=by unfold maxLen; omega
 have JB:=Blk.new w 32 #[.int .i64 (n:Int),.slice A1 n1 c1,.slice A2 n2 c2,.slice A3 m c3]
 have LB:=(Below.refl w.heap.size w).alloc (Nat.le_refl _) (.cells #[.int .i64 (n:Int),.slice A1 n1 c1,.slice A2 n2 c2,.slice A3 m c3] 32)
 have k0:=cell_regrown (JB.cell 0)
 have hza:∀ W,(Instr.alloc 22 true (.tuple #[])).run Tryz.prog W = .ok (.pointer (some ⟨W.heap.size,0,none⟩)) (W.alloc (.cells #[.slice none 0 0] 22)):=fun W => by simp [go_sem]
 have HD:∀ W',Below (w.alloc (.cells #[.int .i64 (n:Int),.slice A1 n1 c1,.slice A2 n2 c2,.slice A3 m c3] 32)).drew.heap.size (w.alloc (.cells #[.int .i64 (n:Int),.slice A1 n1 c1,.slice A2 n2 c2,.slice A3 m c3] 32)).drew W'→Below (w.alloc (.cells #[.int .i64 (n:Int),.slice A1 n1 c1,.slice A2 n2 c2,.slice A3 m c3] 32)).heap.size (w.alloc (.cells #[.int .i64 (n:Int),.slice A1 n1 c1,.slice A2 n2 c2,.slice A3 m c3] 32)) W':=fun W' hb => (Below.refl _ _).drew.trans hb
 clear hok hlm HR
 go_enter Tryz.func59,Tryz.ntmps59
 go_wp2
 refine wp_region_fanG_below 9 [0,1,3,4] [2,5,6,7,8] (fun i => if i = 8 then [2,6,7] else []) (by kernel_rfl) (by kernel_rfl) rfl (by kernel_rfl)
  (fun is a W => (∀ i∈is,i∈[2,5,6,7,8])∧∃ f,UsInv (w.alloc (.cells #[.int .i64 (n:Int),.slice A1 n1 c1,.slice A2 n2 c2,.slice A3 m c3] 32)).drew ⟨#[.agg #[.int .i64 (n:Int),.slice A1 n1 c1,.slice A2 n2 c2,.slice A3 m c3],.pointer (some ⟨w.heap.size,0,none⟩),.nilFunc,undef,undef,undef,undef,.pointer (some ⟨w.heap.size,0,none⟩),.int .i64 (n:Int),undef,.pointer (some ⟨w.heap.size,0,none⟩),.int .i64 (n:Int),undef,undef,undef,undef,undef,undef,undef,undef,undef,undef,undef,undef,undef,undef,undef,undef,undef,undef,undef,undef,undef,undef,undef,undef,undef,undef,undef,undef,undef,undef,undef,undef,undef,undef,undef,undef],[]⟩ n is a W f) ?step ?fin ?_
 case step =>
  rintro is a W ⟨hsub,f,h⟩ i hii hdep
  have hsz:∀ x∈[9,12,3,4],x < (48:Nat):=by decide
  have hsub':∀ j∈is.erase i,j∈[2,5,6,7,8]:=fun j hj => hsub j (List.mem_of_mem_erase hj)
  have hcs:=hsub i hii
  simp only [List.mem_cons,List.not_mem_nil,or_false] at hcs
  rcases hcs with rfl | rfl | rfl | rfl | rfl
  ·refine ⟨_,rfl,rfl,op_make 8 22 rfl w.heap.size.succ 55 i0 _ 1 Tryz.underlying22 hi hy0 hy1 n (eval_tmp ((h.same 8 (by decide)).trans rfl)) hbb hmx (by have:=h.bel.size; simpa using this) ?_⟩
   intro W' hown hb
   rw [show (Value.slice none 0 0).cells = #[Value.slice none 0 0] from rfl,Nat.mul_one,toList_madeCells_one] at hown
   have hlt:=(own_lt hown W.heap.size rfl).2
   have e0:w.heap.size.succ = (w.alloc (.cells #[.int .i64 (n:Int),.slice A1 n1 c1,.slice A2 n2 c2,.slice A3 m c3] 32)).drew.heap.size:=by simp
   rw [e0] at hown
   exact ⟨regrown_of_below (HD _ (h.bel.trans (hb.mono h.bel.size))),hsub',_,h.make 2 hii (by decide) 9 (by decide) _ hb hlt (by decide) (fun _ => ⟨rfl,rfl,hown⟩) (fun e => absurd e (by decide)) (fun e => absurd e (by decide)) (fun e => absurd e (by decide)) hsz⟩
  ·refine ⟨_,rfl,rfl,op_make 11 22 rfl w.heap.size.succ 55 i0 _ 1 Tryz.underlying22 hi hy0 hy1 n (eval_tmp ((h.same 11 (by decide)).trans rfl)) hbb hmx (by have:=h.bel.size; simpa using this) ?_⟩
   intro W' hown hb
   rw [show (Value.slice none 0 0).cells = #[Value.slice none 0 0] from rfl,Nat.mul_one,toList_madeCells_one] at hown
   have hlt:=(own_lt hown W.heap.size rfl).2
   have e0:w.heap.size.succ = (w.alloc (.cells #[.int .i64 (n:Int),.slice A1 n1 c1,.slice A2 n2 c2,.slice A3 m c3] 32)).drew.heap.size:=by simp
   rw [e0] at hown
   exact ⟨regrown_of_below (HD _ (h.bel.trans (hb.mono h.bel.size))),hsub',_,h.make 5 hii (by decide) 12 (by decide) _ hb hlt (by decide) (fun e => absurd e (by decide)) (fun _ => ⟨rfl,rfl,hown⟩) (fun e => absurd e (by decide)) (fun e => absurd e (by decide)) hsz⟩
  ·refine ⟨_,rfl,rfl,op_alloc 22 nilV rfl hza ?_⟩
   have hb:=(Below.refl W.heap.size W).alloc (Nat.le_refl _) (.cells #[nilV] 22)
   exact ⟨regrown_of_below (HD _ (h.bel.trans (hb.mono h.bel.size))),hsub',_,h.make 6 hii (by decide) 3 (by decide) _ hb (by simp) (by decide) (fun e => absurd e (by decide)) (fun e => absurd e (by decide)) (fun _ => ⟨rfl,rfl,Blk.new W _ _⟩) (fun e => absurd e (by decide)) hsz⟩
  ·refine ⟨_,rfl,rfl,op_alloc 22 nilV rfl hza ?_⟩
   have hb:=(Below.refl W.heap.size W).alloc (Nat.le_refl _) (.cells #[nilV] 22)
   exact ⟨regrown_of_below (HD _ (h.bel.trans (hb.mono h.bel.size))),hsub',_,h.make 7 hii (by decide) 4 (by decide) _ hb (by simp) (by decide) (fun e => absurd e (by decide)) (fun e => absurd e (by decide)) (fun e => absurd e (by decide)) (fun _ => ⟨rfl,rfl,Blk.new W _ _⟩) hsz⟩
  ·have d2:=hdep 2 (by decide)
   have d6:=hdep 6 (by decide)
   have d7:=hdep 7 (by decide)
   have h6:=h.m6 d6
   rw [if_pos hii] at h6
   refine ⟨_,rfl,rfl,op_store 22 (.tmp 3) (.tmp 9) rfl (f 6) _ nilV (eval_tmp h6.1) (eval_tmp (h.m2 d2).1) (by kernel_rfl) rfl h6.2 ?_⟩
   have hs:=h.store hii d2 d6 d7
   exact ⟨regrown_of_below (HD _ hs.bel),hsub',f,hs⟩
 case fin =>
  rintro a W ⟨_,f,h⟩
  obtain ⟨a9,o1⟩:=h.m2 (by simp)
  obtain ⟨a12,o2⟩:=h.m5 (by simp)
  obtain ⟨a3,b6⟩:=h.m6 (by simp)
  obtain ⟨a4,b7⟩:=h.m7 (by simp)
  rw [if_neg (by simp)] at b6
  have n25:=h.ne 2 (by decide) 5 (by decide) (by decide) (by simp) (by simp)
  have n67:=h.ne 6 (by decide) 7 (by decide) (by decide) (by simp) (by simp)
  have hbl:=h.bel
  have lt7:=h.lt 7 (by decide) (by simp)
  rw [act_eq4 h.defers h.size h.same a9 a12 a3 a4]
  clear h a9 a12 a3 a4
  generalize f 2 = L1 at *
  generalize f 5 = L2 at *
  generalize f 6 = Bo at *
  generalize f 7 = Bb at *
  have hc7:=b7.cell 0
  have hf7:=b7.frozen 0
  simp only [Act.put]
  go_wp2
  refine NoPanic.normal ?_
  have hD:=HD _ hbl
  have hWl:W.heap.size > w.heap.size:=by have:=hbl.size; simp at this; omega
  have HU0:UsW w (W.setCell ⟨Bb,0,none⟩ (.slice (some ⟨L2,0,none⟩) n n)) w.heap.size Bo Bb L1 L2 n (w.heap.size + 1) #[.int .i64 (n:Int),.slice A1 n1 c1,.slice A2 n2 c2,.slice A3 m c3] (List.replicate n nilV) (List.replicate n nilV) (onS t.arcs 0) (backS t.arcs 0):=by
   have hz:(w.alloc (.cells #[.int .i64 (n:Int),.slice A1 n1 c1,.slice A2 n2 c2,.slice A3 m c3] 32)).drew.heap.size = w.heap.size + 1:=by simp
   rw [hz] at o1 o2
   have hBb:=lt7.1
   rw [hz] at hBb
   refine ⟨(JB.below hD JB.lt).far (p:=⟨Bb,0,none⟩) (by show w.heap.size≠Bb; omega) _,b6.far (p:=⟨Bb,0,none⟩) n67 _,b7.set_ 0 _,grp_madeU (own_setCell o1 (own_blk_ne o1 b7 (by decide)) _),grp_madeU (own_setCell o2 (own_blk_ne o2 b7 (by decide)) _),n25,fun s t _ _ g hg => ?_,((LB.trans (hD.mono (by simp))).setCell (p:=⟨Bb,0,none⟩) (by show w.heap.size≤Bb; omega) _),Nat.le_succ _⟩
   have e:(List.replicate n nilV).getD s nilV = nilV:=by
    rw [List.getD_eq_getElem?_getD,List.getElem?_replicate]
    split <;> rfl
   rw [e] at hg
   cases hg
  have q3:=HU0.bt.cell 3
  clear hbl hD o1 o2 b6 b7 n25 n67 hc7 hf7 JB LB HD hi hy0 hy1 hy2 hbb lt7
  generalize W.setCell ⟨Bb,0,none⟩ (.slice (some ⟨L2,0,none⟩) n n) = W1 at *
  clear hWl
  go_wp2
  clear q3
  go_loopw [16] (fun i wr => ∃ (k:Nat) (v1 v2:List Value),k≤m∧i = .int .i64 ((k:Nat):Int)∧UsW w wr w.heap.size Bo Bb L1 L2 n (w.heap.size + 1) #[.int .i64 (n:Int),.slice A1 n1 c1,.slice A2 n2 c2,.slice A3 m c3] v1 v2 (onS t.arcs k) (backS t.arcs k)) (fun i _ => m - (intOf i).toNat)
  case atStart => exact ⟨0,_,_,Nat.zero_le _,rfl,HU0⟩
  case round =>
   clear HU0
   obtain ⟨k,v1,v2,hk,rfl,HU⟩:=hrel
   by_cases hlt:k < m
   ·have hi1:(0:Int)≤(k:Int):=by omega
    have hi2:(k:Int) < (m:Int):=by omega
    obtain ⟨gx,ox,rfl,hgx,a0,a1,a2,a3,a4,a5,a6,a7⟩:=arc_cell (HR'.below HU.bel) k hlt
    have hkl:k < t.arcs.length:=by have:=Hlm.out; omega
    obtain ⟨o1,o2,o3,o4⟩:=HOK.out _ (getD_in t.arcs ar0 k hkl)
    have hs1:=Lib.hid (onS_succ t.arcs k hkl)
    have hs2:=Lib.hid (backS_succ t.arcs k hkl)
    have hlo:∀ s,(onS t.arcs k s).length≤16384:=fun s => Nat.le_trans (onS_len t.arcs k s) (by have:=Hlm.out; omega)
    have hlb:∀ s,(backS t.arcs k s).length≤16384:=fun s => Nat.le_trans (backS_len t.arcs k s) (by have:=Hlm.out; omega)
    generalize t.arcs.getD k ar0 = x at *
    obtain ⟨fr,tt,⟨s1,s2,s3,s4⟩,qo,cp⟩:=x
    simp only at a0 a1 a2 a3 a4 a5 a6 a7 o1 o2 o3 o4
    obtain ⟨s,rfl⟩:∃ s:Nat,fr = (s:Int):=⟨_,(Int.toNat_of_nonneg o1).symm⟩
    obtain ⟨u,rfl⟩:∃ u:Nat,tt = (u:Int):=⟨_,(Int.toNat_of_nonneg o3).symm⟩
    have hsn:s < n:=by omega
    have hun:u < n:=by omega
    have hsn2:(s:Int) < (n:Int):=by omega
    have hun2:(u:Int) < (n:Int):=by omega
    have hl1:=hlo s
    have hl2:=hlb u
    clear hlo hlb hkl
    generalize onS t.arcs k = ron at *
    generalize backS t.arcs k = rba at *
    have LB:=(Below.refl wr.heap.size wr).alloc (Nat.le_refl _) (.cells #[.int .i64 (s:Int),.int .i64 (u:Int),.int .u64 (s1:Int),.int .u64 (s2:Int),.int .u64 (s3:Int),.int .u64 (s4:Int),.string qo,.bool cp] 61)
    have HUa:=HU.call LB
    have HXa:=Blk.new wr 61 #[.int .i64 (s:Int),.int .i64 (u:Int),.int .u64 (s1:Int),.int .u64 (s2:Int),.int .u64 (s3:Int),.int .u64 (s4:Int),.string qo,.bool cp]
    obtain ⟨ia,hia,hya0,hya1,hya2⟩:=info_parts int_info
    clear HU LB
    go_wp2
    clear a0 a1 a2 a3 a4 a5 a6 a7
    generalize wr.heap.size = Gx at *
    generalize (wr.alloc (.cells #[.int .i64 (s:Int),.int .i64 (u:Int),.int .u64 (s1:Int),.int .u64 (s2:Int),.int .u64 (s3:Int),.int .u64 (s4:Int),.string qo,.bool cp] 61)) = wa at *
    have hrow0:=HUa.g1.row s hsn
    obtain ⟨Av0,cv0,hv0,_,_,_⟩:=own_form hrow0
    have hcl0:=own_cellAt HUa.g1.own s hsn nilV
    rw [hv0] at hcl0
    obtain ⟨Sx0,hSdef0⟩:∃ Sx:World→Prop,Sx = fun W => Blk W Gx 61 #[.int .i64 (s:Int),.int .i64 (u:Int),.int .u64 (s1:Int),.int .u64 (s2:Int),.int .u64 (s3:Int),.int .u64 (s4:Int),.string qo,.bool cp]∧Blk W Bo 22 #[.slice (some ⟨L1,0,none⟩) n n]∧W.cell? ⟨L1,s,none⟩ = some (.slice Av0 (ron s).length cv0):=⟨_,rfl⟩
    have hSi0:=fun W x1 x2 x3 => show Sx0 W by rw [hSdef0]; exact ⟨x1,x2,x3⟩
    have hSo0:=fun W (h:Sx0 W) => show Blk W Gx 61 #[.int .i64 (s:Int),.int .i64 (u:Int),.int .u64 (s1:Int),.int .u64 (s2:Int),.int .u64 (s3:Int),.int .u64 (s4:Int),.string qo,.bool cp]∧Blk W Bo 22 #[.slice (some ⟨L1,0,none⟩) n n]∧W.cell? ⟨L1,s,none⟩ = some (.slice Av0 (ron s).length cv0) by rw [hSdef0] at h; exact h
    have y0:=fun p:Held Sx0 => (hSo0 p.w p.2).1.cell 0
    have y1:=fun p:Held Sx0 => (hSo0 p.w p.2).1.cell 1
    have y2:=fun p:Held Sx0 => (hSo0 p.w p.2).2.1.cell 0
    have y3:=fun p:Held Sx0 => (hSo0 p.w p.2).2.2
    have hS00:Sx0 wa.drew:=hSi0 _ HXa HUa.bo hcl0
    clear hSdef0
    have hNe0:Nonempty (Held Sx0):=⟨⟨_,hS00⟩⟩
    go_wp2
    refine wp_region_hold_at Sx0 12 [0,1,2,3,4,5,6,7,8,9] [10,11] (by kernel_rfl) (by kernel_rfl) rfl (by kernel_rfl) hS00 ?_
    simp only [pickOps,List.getElem?_cons_zero,List.getElem?_cons_succ,List.drop_succ_cons,List.drop_zero]
    repeat (go_big_quiet_step (fail))
    refine wpQuiet_nil ?_
    clear y0 y1 y2 y3
    have LA0:Below wa.heap.size wa (wa.drew.alloc (.cells #[.int .i64 (u:Int)] 3)):=(Below.refl _ wa).drew.alloc (Nat.le_refl _) _
    have HUq0:=HUa.call LA0
    have HXq0:=HXa.below LA0 HXa.lt
    have hclq0:=own_cellAt HUq0.g1.own s hsn nilV
    rw [hv0] at hclq0
    refine wpForce_step rfl (fun KK hKK => ?_)
    go_simp
    refine hKK _ _ (HeldIn.of (hSi0 _ HXq0 HUq0.bo hclq0)) ?_
    clear hKK KK
    have hrd0:=reads_allocK wa.drew [.int .i64 (u:Int)] 3 1 1 rfl
    have hrow20:=HUq0.g1.row s hsn
    rw [hv0] at hrow20
    have hone0:=encI_one (u:Int)
    have h630:(ron s).length + 1≤maxLen:=by unfold maxLen; omega
    have hby0:((ron s).length + 1) * 8≤140737488355328:=by omega
    have hbs0:w.heap.size + 1≤(wa.drew.alloc (.cells #[.int .i64 (u:Int)] 3)).heap.size:=by
     have:=own_lt HUq0.g1.own L1 rfl
     omega
    refine wpForce_step rfl (fun KK hKK => ?_)
    refine wp_append_any _ _ _ 55 rfl (w.heap.size + 1) 3 ia _ 1 8 Tryz.underlying55 hia hya0 hya1 hya2 rfl (by decide) _ _ _ rfl hrow20 _ (some ⟨wa.drew.heap.size,0,none⟩) 1 1 [.int .i64 (u:Int)] rfl hrd0 hone0 h630 hby0 hbs0 ?_
    intro v'0 wz0 hown hgrow hloc
    have hgrow':=hgrow
    rw [← hv0] at hgrow'
    have HU0n:=(HUq0.put s hsn (u:Int) hgrow' hown (by rw [hv0]; exact hloc))
    have kk:=HUq0.g1.own.kept hgrow' (apart_types HUq0.g1.own (HUq0.g1.row s hsn) (by decide)).or_none
    have hc5:=own_cellAt kk s hsn nilV
    have hf5:=own_frozenAt kk s
    rw [hv0] at hc5
    have HXz0:=blk_keep HXq0 hgrow' (own_blk (HUq0.g1.row s hsn) HXq0 (by decide))
    have HBz0:=blk_keep HUq0.bo hgrow' (own_blk (HUq0.g1.row s hsn) HUq0.bo (by decide))
    refine hKK _ _ (HeldIn.of (hSi0 _ HXz0 HBz0 hc5)) ?_
    clear hKK KK
    obtain ⟨Aw0,cw0,rfl,_,_,_⟩:=own_form hown
    have HXn0:=HXz0.far (p:=⟨L1,s,none⟩) (fun e => own_blk HUq0.g1.own HXq0 (by decide) (congrArg some e.symm)) (.slice Aw0 ((ron s).length + 1) cw0)
    clear hown hgrow hgrow' hloc hrd0 hrow20 HXq0 HUq0 hSi0 hSo0 hS00 kk hcl0 hclq0 LA0 HXz0 HBz0 hrow0 hbs0
    refine wpForce_nil ?_
    go_wp2
    refine NoPanic.normal ?_
    clear hc5 hf5
    generalize (wz0.setCell ⟨L1,s,none⟩ (.slice Aw0 ((ron s).length + 1) cw0)) = wn0 at *
    have hrow1:=HU0n.g2.row u hun
    obtain ⟨Av1,cv1,hv1,_,_,_⟩:=own_form hrow1
    have hcl1:=own_cellAt HU0n.g2.own u hun nilV
    rw [hv1] at hcl1
    obtain ⟨Sx1,hSdef1⟩:∃ Sx:World→Prop,Sx = fun W => Blk W Gx 61 #[.int .i64 (s:Int),.int .i64 (u:Int),.int .u64 (s1:Int),.int .u64 (s2:Int),.int .u64 (s3:Int),.int .u64 (s4:Int),.string qo,.bool cp]∧Blk W Bb 22 #[.slice (some ⟨L2,0,none⟩) n n]∧W.cell? ⟨L2,u,none⟩ = some (.slice Av1 (rba u).length cv1):=⟨_,rfl⟩
    have hSi1:=fun W x1 x2 x3 => show Sx1 W by rw [hSdef1]; exact ⟨x1,x2,x3⟩
    have hSo1:=fun W (h:Sx1 W) => show Blk W Gx 61 #[.int .i64 (s:Int),.int .i64 (u:Int),.int .u64 (s1:Int),.int .u64 (s2:Int),.int .u64 (s3:Int),.int .u64 (s4:Int),.string qo,.bool cp]∧Blk W Bb 22 #[.slice (some ⟨L2,0,none⟩) n n]∧W.cell? ⟨L2,u,none⟩ = some (.slice Av1 (rba u).length cv1) by rw [hSdef1] at h; exact h
    have y0:=fun p:Held Sx1 => (hSo1 p.w p.2).1.cell 0
    have y1:=fun p:Held Sx1 => (hSo1 p.w p.2).1.cell 1
    have y2:=fun p:Held Sx1 => (hSo1 p.w p.2).2.1.cell 0
    have y3:=fun p:Held Sx1 => (hSo1 p.w p.2).2.2
    have hS01:Sx1 wn0.drew:=hSi1 _ HXn0 HU0n.bb hcl1
    clear hSdef1
    have hNe1:Nonempty (Held Sx1):=⟨⟨_,hS01⟩⟩
    go_wp2
    refine wp_region_hold_at Sx1 12 [0,1,2,3,4,5,6,7,8,9] [10,11] (by kernel_rfl) (by kernel_rfl) rfl (by kernel_rfl) hS01 ?_
    simp only [pickOps,List.getElem?_cons_zero,List.getElem?_cons_succ,List.drop_succ_cons,List.drop_zero]
    repeat (go_big_quiet_step (fail))
    refine wpQuiet_nil ?_
    clear y0 y1 y2 y3
    have LA1:Below wn0.heap.size wn0 (wn0.drew.alloc (.cells #[.int .i64 (s:Int)] 3)):=(Below.refl _ wn0).drew.alloc (Nat.le_refl _) _
    have HUq1:=HU0n.call LA1
    have HXq1:=HXn0.below LA1 HXn0.lt
    have hclq1:=own_cellAt HUq1.g2.own u hun nilV
    rw [hv1] at hclq1
    refine wpForce_step rfl (fun KK hKK => ?_)
    go_simp
    refine hKK _ _ (HeldIn.of (hSi1 _ HXq1 HUq1.bb hclq1)) ?_
    clear hKK KK
    have hrd1:=reads_allocK wn0.drew [.int .i64 (s:Int)] 3 1 1 rfl
    have hrow21:=HUq1.g2.row u hun
    rw [hv1] at hrow21
    have hone1:=encI_one (s:Int)
    have h631:(rba u).length + 1≤maxLen:=by unfold maxLen; omega
    have hby1:((rba u).length + 1) * 8≤140737488355328:=by omega
    have hbs1:w.heap.size + 1≤(wn0.drew.alloc (.cells #[.int .i64 (s:Int)] 3)).heap.size:=by
     have:=own_lt HUq1.g2.own L2 rfl
     omega
    refine wpForce_step rfl (fun KK hKK => ?_)
    refine wp_append_any _ _ _ 55 rfl (w.heap.size + 1) 3 ia _ 1 8 Tryz.underlying55 hia hya0 hya1 hya2 rfl (by decide) _ _ _ rfl hrow21 _ (some ⟨wn0.drew.heap.size,0,none⟩) 1 1 [.int .i64 (s:Int)] rfl hrd1 hone1 h631 hby1 hbs1 ?_
    intro v'1 wz1 hown hgrow hloc
    have hgrow':=hgrow
    rw [← hv1] at hgrow'
    have HU1n:=(HUq1.swap.put u hun (s:Int) hgrow' hown (by rw [hv1]; exact hloc)).swap
    have kk:=HUq1.g2.own.kept hgrow' (apart_types HUq1.g2.own (HUq1.g2.row u hun) (by decide)).or_none
    have hc5:=own_cellAt kk u hun nilV
    have hf5:=own_frozenAt kk u
    rw [hv1] at hc5
    have HXz1:=blk_keep HXq1 hgrow' (own_blk (HUq1.g2.row u hun) HXq1 (by decide))
    have HBz1:=blk_keep HUq1.bb hgrow' (own_blk (HUq1.g2.row u hun) HUq1.bb (by decide))
    refine hKK _ _ (HeldIn.of (hSi1 _ HXz1 HBz1 hc5)) ?_
    clear hKK KK
    obtain ⟨Aw1,cw1,rfl,_,_,_⟩:=own_form hown
    have HXn1:=HXz1.far (p:=⟨L2,u,none⟩) (fun e => own_blk HUq1.g2.own HXq1 (by decide) (congrArg some e.symm)) (.slice Aw1 ((rba u).length + 1) cw1)
    clear hown hgrow hgrow' hloc hrd1 hrow21 HXq1 HUq1 hSi1 hSo1 hS01 kk hcl1 hclq1 LA1 HXz1 HBz1 hrow1 hbs1
    refine wpForce_nil ?_
    go_wp2
    refine NoPanic.normal ?_
    clear hc5 hf5
    generalize (wz1.setCell ⟨L2,u,none⟩ (.slice Aw1 ((rba u).length + 1) cw1)) = wn1 at *
    go_wp2
    go_roundw
    case rel =>
     refine ⟨k + 1,v1.set s (.slice Aw0 ((ron s).length + 1) cw0),v2.set u (.slice Aw1 ((rba u).length + 1) cw1),by omega,by go_num,?_⟩
     have e1:onS t.arcs (k + 1) = fun q => if q = s then ron s ++ [(u:Int)] else ron q:=by
      funext q
      rw [hs1.out q]
      by_cases hq:q = s
      ·subst hq; rw [if_pos rfl,if_pos rfl]
      ·rw [if_neg (show ¬ ((q:Int) = (s:Int)) by omega),if_neg hq]
     have e2:backS t.arcs (k + 1) = fun q => if q = u then rba u ++ [(s:Int)] else rba q:=by
      funext q
      rw [hs2.out q]
      by_cases hq:q = u
      ·subst hq; rw [if_pos rfl,if_pos rfl]
      ·rw [if_neg (show ¬ ((q:Int) = (u:Int)) by omega),if_neg hq]
     rw [e1,e2]
     exact HU1n
    case measure => simp [intOf]; omega
   ·obtain rfl:m = k:=by omega
    have hmk:∀ (fn:Fn) (first cap:Array Value) (w:World),(Instr.makeFunc fn first cap).run Tryz.prog w = .ok (.func fn first cap) w:=fun _ _ _ _ => rfl
    have hfin:UsefulPost t #[.int .i64 (n:Int),.slice A1 n1 c1,.slice A2 n2 c2,.slice A3 m c3] n w (.returned (.func (.func 91) #[] #[.pointer (some ⟨w.heap.size,0,none⟩),.pointer (some ⟨Bo,0,none⟩),.pointer (some ⟨Bb,0,none⟩)])) wr:=⟨Bo,Bb,L1,L2,_,v1,v2,rfl,by rw [Hlm.out]; exact HU⟩
    have Hfin:=Lib.hid hfin
    clear hfin
    go_wp2
    go_ret
    exact Hfin.out
 simp only [pickOps,List.getElem?_cons_zero,List.getElem?_cons_succ]
 repeat (go_big_quiet_step (fail))
 refine wpQuiet_nil ?_
 exact ⟨fun i hi => hi,fun _ => 0,by decide,rfl,rfl,fun _ _ => rfl,Below.refl _ _,fun h => absurd (by decide) h,fun i h1 h2 => absurd (by simp at h1 ⊢; omega) h2,fun i h1 j _ _ h2 => absurd (by simp at h1 ⊢; omega) h2,fun h => absurd (by decide) h,fun h => absurd (by decide) h,fun h => absurd (by decide) h,fun h => absurd (by decide) h⟩
end Go.Proofs.YtcondkihpmmnnaaGreatDoor
namespace Go.Proofs.YtcondkihpmmnnaaGreatDoor
open Go.RowKit Go.Sort
def arcsO (arcs:List Ar) (s:Nat):List Ar:=arcs.filter fun a => a.fr == (s:Int)
def behS (b:Nat) (xo:ByteArray) (row:List Ar):List Tp:=(row.filter fun a => a.set.m b).map fun a => ⟨a.to,xo ++ a.putB b⟩
theorem behindF_next (arcs:List Ar) (l:List Tp) (b k:Nat) (hk:k < l.length) (s:Nat) (hs:(l.getD k tp0).st = (s:Int)):behindF arcs (l.take (k + 1)) b = behindF arcs (l.take k) b ++ behS b (l.getD k tp0).out (arcsO arcs s):=by
 unfold behindF behS arcsO
 rw [take_next l tp0 k hk,List.flatMap_append,List.flatMap_singleton,hs,List.filter_filter]
 congr 3
 funext a
 exact Bool.and_comm _ _
theorem behS_next (b:Nat) (xo:ByteArray) (row:List Ar) (j:Nat) (hj:j < row.length):behS b xo (row.take (j + 1)) = behS b xo (row.take j) ++ if (row.getD j ar0).set.m b = true then [⟨(row.getD j ar0).to,xo ++ (row.getD j ar0).putB b⟩] else []:=by
 unfold behS
 rw [take_next row ar0 j hj,List.filter_append,List.map_append]
 by_cases h:(row.getD j ar0).set.m b = true
 ·rw [if_pos h,List.filter_cons_of_pos (p:=fun a:Ar => a.set.m b) h]; rfl
 ·rw [if_neg h,List.filter_cons_of_neg (p:=fun a:Ar => a.set.m b) h]; simp
def BehindPost (arcs:List Ar) (l:List Tp) (b:Nat) (w:World) (e:Ending) (w':World):Prop :=
 ∃ v,e = .returned v∧w'.ownsRow w.heap.size 54 2 v (behindF arcs l b).length (encs encT (behindF arcs l b))∧Below w.heap.size w w'
set_option maxRecDepth 100000 in
set_option maxHeartbeats 4000000 in
theorem behind_any (G B:Nat) (A:Option Addr) (n c b:Nat) (arcs:List Ar) (l:List Tp) (w:World) (vE vR vM vN vO vEn vT:Value) (L ns:Nat) (most:Int) (fr:ByteArray) (hG:Blk w G 78 #[.slice (some ⟨L,0,none⟩) ns ns,vE,.int .i64 most,vR,vM,.string fr,vN,vO,vEn,vT])
    (HR:Reads w B 2 A n (encs encT l)) (HA:GrpR encA 8 w B L ns (arcsO arcs)) (hB:B≤w.heap.size) (hGB:G < w.heap.size) (hl:∀ x∈l,0≤x.st∧x.st < (ns:Int)∧x.out.size≤4096) (ha:arcs.length≤16384∧∀ x∈arcs,x.out.size≤1024∧StW x.set) (hn:n≤1024) (_hns:ns≤1024) (hb:b < 256) :
    Calls Tryz.prog 98 #[.pointer (some ⟨G,0,none⟩),.slice A n c,.int .u8 (b:Int)] w (BehindPost arcs l b w):=by
 have hln:=reads_len encT_len (by decide) HR
 have HLN:=Lib.hid hln
 have Hl:=Lib.hid hl
 have HAn:=Lib.hid ha
 clear hln hl ha
 go_enter Tryz.func98,Tryz.ntmps98
 go_wp2
 go_loopw [7,15] (fun rv i wr => ∃ (k:Nat) (v:Value),k≤n∧i = .int .i64 ((k:Nat):Int)∧v = rv∧wr.ownsRow w.heap.size 54 2 v (behindF arcs (l.take k) b).length (encs encT (behindF arcs (l.take k) b))∧(behindF arcs (l.take k) b).length≤k * 16384∧Below w.heap.size w wr) (fun _ i _ => n - (intOf i).toNat)
 case atStart => exact ⟨0,_,Nat.zero_le _,rfl,rfl,World.ownsRow_nil _ _ _ _,Nat.zero_le _,Below.refl _ _⟩
 case round =>
  obtain ⟨k,v,hk,rfl,rfl,hown,hlen,hb0⟩:=hrel
  by_cases hlt:k < n
  ·have hi1:(0:Int)≤(k:Int):=by omega
   have hi2:(k:Int) < (n:Int):=by omega
   obtain ⟨g,o,rfl,hgB,d0,d1⟩:=tip_cell (HR.below (hb0.mono hB)) k hlt
   have hq:=Hl.out _ (getD_in l tp0 k (by have:=HLN.out; omega))
   obtain ⟨x,hx⟩:∃ x:Nat,(l.getD k tp0).st = (x:Int):=⟨_,(Int.toNat_of_nonneg hq.1).symm⟩
   have Hnext:=Lib.hid (behindF_next arcs l b k (by have:=HLN.out; omega) x hx)
   rw [hx] at d0 hq
   generalize (l.getD k tp0).out = xo at *
   have hxn:x < ns:=by omega
   have hx1:(0:Int)≤(x:Int):=by omega
   have hx2:(x:Int) < (ns:Int):=by omega
   obtain ⟨A2,c2,g0,g1,g2,g3⟩:=(HA.below (hb0.mono hB)).2 x hxn
   have hcl:(arcsO arcs x).length≤16384:=Nat.le_trans (List.length_filter_le _ _) HAn.out.1
   have HCS:=Lib.hid (show ∀ z∈arcsO arcs x,z.out.size≤1024∧StW z.set from fun z hz => HAn.out.2 z (List.mem_filter.1 hz).1)
   clear hx
   generalize arcsO arcs x = row at *
   generalize hrl:row.length = rl at *
   have HRL:=Lib.hid hrl
   clear hrl
   have LB:=(Below.refl wr.heap.size wr).alloc (Nat.le_refl _) (.cells #[.int .i64 (x:Int),.string xo] 54)
   have HX:=Blk.new wr 54 #[.int .i64 (x:Int),.string xo]
   have hvx:v.ownBlock≠some wr.heap.size:=fun e => by have:=(own_lt hown _ e).2; omega
   have x0:=cell_regrown (HX.cell 0)
   have hb1:=hb0.trans (LB.mono hb0.size)
   have hG1:=(hG.below hb0 hGB).below LB (by have:=hb0.size; omega)
   have y1:=cell_regrown (hG1.cell 0)
   have y2:=cell_regrown ((LB.cell (p:=⟨L,x,none⟩) (by have:=HA.1; have:=hb0.size; show L < _; omega)).trans g0)
   have R2:=g3.below (LB.mono (Nat.le_trans hB hb0.size))
   have ho1:=own_below hown LB
   have hz1:=hb0.size
   clear LB hb0 g0 g3 hown
   go_wp2
   clear d0 d1
   refine wp_region_quiet_below (by kernel_rfl) (by kernel_rfl) ?_
   repeat (go_big_quiet_step (fail))
   refine wpQuiet_nil ?_
   intro w5 hw5
   have LB:=below_of hw5
   have HX5:=HX.below LB HX.lt
   have hb5:=hb1.trans (LB.mono hb1.size)
   have R5:=R2.below (LB.mono (by simp; omega))
   have ho5:=own_below ho1 LB
   have hz5:wr.heap.size < w5.heap.size:=HX5.lt
   clear hw5 x0 y1 y2 HX hG1 hb1 R2 LB ho1
   generalize wr.heap.size = gX at *
   generalize hS0:behindF arcs (l.take k) b = S0 at *
   have HS0:=Lib.hid hS0
   clear hS0
   go_wp2
   go_loopw [7,28] (fun rv i wv => ∃ (j:Nat) (v:Value) (S:List Tp),j≤rl∧i = .int .i64 ((j:Nat):Int)∧v = rv∧S = S0 ++ behS b xo (row.take j)∧wv.ownsRow w.heap.size 54 2 v S.length (encs encT S)∧S.length≤k * 16384 + j∧Below w.heap.size w wv∧Blk wv gX 54 #[.int .i64 (x:Int),.string xo]∧v.ownBlock≠some gX∧Reads wv B 8 A2 rl (encs encA row)) (fun _ i _ => rl - (intOf i).toNat)
   case atStart => exact ⟨0,v,S0,Nat.zero_le _,rfl,rfl,by simp [behS],ho5,hlen,hb5,HX5,hvx,R5⟩
   case round =>
    clear ho5 HX5 hvx R5 hlen hb5
    obtain ⟨j,v,S,hj,rfl,rfl,hS,hown,hlen,hb5,HX5,hvx,R5⟩:=hrel
    have HS:=Lib.hid hS
    clear hS
    by_cases hlt2:j < rl
    ·have hj1:(0:Int)≤(j:Int):=by omega
     have hj2:(j:Int) < (rl:Int):=by omega
     have hz6:=hb5.size
     obtain ⟨g',o',rfl,hgB',e0,e1,e2,e3,e4,e5,e6,e7⟩:=arc_cell R5 j hlt2
     have hz:=HCS.out _ (getD_in row ar0 j (by have:=HRL.out; omega))
     have Hn2:=Lib.hid (behS_next b xo row j (by have:=HRL.out; omega))
     generalize row.getD j ar0 = q at *
     obtain ⟨af,at',⟨s1,s2,s3,s4⟩,ao,cp⟩:=q
     simp only at e0 e1 e2 e3 e4 e5 e6 e7 hz
     have hH:=fun W => hasS_any ⟨s1,s2,s3,s4⟩ hz.2 b W hb
     have LBa:=(Below.refl wr.heap.size wr).alloc (Nat.le_refl _) (.cells #[.int .i64 af,.int .i64 at',.int .u64 (s1:Int),.int .u64 (s2:Int),.int .u64 (s3:Int),.int .u64 (s4:Int),.string ao,.bool cp] 61)
     have HY:=Blk.new wr 61 #[.int .i64 af,.int .i64 at',.int .u64 (s1:Int),.int .u64 (s2:Int),.int .u64 (s3:Int),.int .u64 (s4:Int),.string ao,.bool cp]
     have u2:=HY.cell 2
     have u3:=HY.cell 3
     have u4:=HY.cell 4
     have u5:=HY.cell 5
     have hb6:=hb5.trans (LBa.mono hz6)
     have HX6:=HX5.below LBa HX5.lt
     have ho6:=own_below hown LBa
     have R6:=R5.below (LBa.mono (Nat.le_trans hB hz6))
     have hgXl:=HX5.lt
     clear HX5 R5 hown hb5 LBa
     go_wp2_with fail
     refine (hH _).mono ?_
     rintro e w6 ⟨rfl,LB6⟩
     have hb7:=hb6.trans (LB6.mono hb6.size)
     have HX7:=HX6.below LB6 HX6.lt
     have HY7:=HY.below LB6 HY.lt
     have ho7:=own_below ho6 LB6
     have R7:=R6.below (LB6.mono (Nat.le_trans hB hb6.size))
     clear e0 e1 e2 e3 e4 e5 e6 e7 u2 u3 u4 u5 HX6 HY ho6 R6 hH
     generalize hm:(⟨s1,s2,s3,s4⟩:St).m b = mb at *
     rcases mb with _ | _
     ·go_wp2
      go_roundw
      case rel => exact ⟨j + 1,v,S,by omega,by go_num,rfl,by rw [Hn2.out,HS.out]; simp,ho7,by omega,hb7,HX7,hvx,R7⟩
      case measure => simp [intOf]; omega
     ·have t1:=HY7.cell 1
      have t6:=HY7.cell 6
      have t7:=HY7.cell 7
      have p1:=HX7.cell 1
      have hxs:xo.size≤4096:=hq.2.2
      have hmx:xo.size + ao.size≤9223372036854775807:=by have:=hz.1; omega
      obtain ⟨Av,cv,rfl,_,_,_⟩:=own_form ho7
      obtain ⟨i0,hi,hy0,hy1,hy2⟩:=info_parts tip_info
      have h63:S.length + 1≤maxLen:=by unfold maxLen; omega
      have hby:(S.length + 1) * 24≤140737488355328:=by omega
      rcases cp with _ | _
      ·have L1:=(Below.refl w6.heap.size w6).alloc (Nat.le_refl _) (.cells #[.int .i64 at',.string (xo ++ ao)] 54)
       have HZ:=Blk.new w6 54 #[.int .i64 at',.string (xo ++ ao)]
       have z0:=HZ.cell 0
       have z1:=HZ.cell 1
       have LL:=L1.alloc L1.size (.cells #[.int .i64 at',.string (xo ++ ao)] 54)
       have hrd:=reads_allocK (w6.alloc (.cells #[.int .i64 at',.string (xo ++ ao)] 54)) [.int .i64 at',.string (xo ++ ao)] 54 2 1 rfl
       rw [World.size_alloc] at hrd
       have ho9:=own_below ho7 LL
       have HX9:=HX7.below LL HX7.lt
       have R9:=R7.below (LL.mono (Nat.le_trans hB hb7.size))
       have hb9:=hb7.trans (LL.mono hb7.size)
       have hone:=encT_one ⟨at',xo ++ ao⟩
       have hbase:=hb9.size
       have hvl:=fun g (e:(Value.slice Av S.length cv).ownBlock = some g) => (own_lt ho7 g e).1
       have HFin:=Lib.hid (fun w7 v' (hown:World.ownsRow w7 w.heap.size 54 2 v' (S.length + 1) (encs encT S ++ encT ⟨at',xo ++ ao⟩)) => show World.ownsRow w7 w.heap.size 54 2 v' (S ++ [(⟨at',xo ++ ao⟩:Tp)]).length (encs encT (S ++ [(⟨at',xo ++ ao⟩:Tp)])) by rw [encs_snoc,List.length_append]; exact hown)
       have t7':=(HY7.below L1 HY7.lt).cell 7
       clear L1 HZ
       go_wp2_with (at_builtin; refine wpList_append_any _ rfl _ _ 29 rfl w.heap.size 54 i0 _ 2 24 Tryz.underlying29 hi hy0 hy1 hy2 rfl (by decide) _ _ _ rfl ho9 _ (some ⟨w6.heap.size + 1,0,none⟩) 1 1 [.int .i64 at',.string (xo ++ ao)] rfl hrd hone h63 hby hbase ?_; intro v' w7 hown hgrow hloc)
       go_roundw
       case rel =>
        obtain ⟨hX0,hne⟩:Blk w7 gX 54 #[.int .i64 (x:Int),.string xo]∧v'.ownBlock≠some gX:=⟨HX9.grown hgrow (fun e => hvx e.symm),fun e => by
         rcases hloc with h | h
         ·exact hvx (h.symm.trans e)
         ·have:=Option.some.inj (h.symm.trans e)
          simp at this
          have:=HX7.lt
          omega⟩
        refine ⟨j + 1,v',S ++ [⟨at',xo ++ ao⟩],by omega,by go_num,rfl,?_,HFin.out w7 v' hown,by simp; omega,hb9.grown hgrow hbase hvl,hX0,hne,R9.keep fun p hp => ?_⟩
        ·rw [Hn2.out,HS.out,if_pos trivial,List.append_assoc]
         have:((⟨af,at',⟨s1,s2,s3,s4⟩,ao,false⟩:Ar).putB b) = ao:=bl_inj (by simp [Ar.putB])
         rw [this]
        ·exact cell_kept (hgrow.block _ (by have:=hb9.size; omega) (fun e => by have:=hvl _ e.symm; omega))
       case measure => simp [intOf]; omega
      ·have L1:=(Below.refl w6.heap.size w6).alloc (Nat.le_refl _) (.cells #[.int .i64 at',.string (xo ++ ao)] 54)
       have HZ:=Blk.new w6 54 #[.int .i64 at',.string (xo ++ ao)]
       have z1:=HZ.cell 1
       have t7':=(HY7.below L1 HY7.lt).cell 7
       have hmx2:(xo ++ ao).size + 1≤9223372036854775807:=by
        have e:=congrArg List.length (bl_app xo ao)
        rw [bl_len,List.length_append,bl_len,bl_len] at e
        omega
       have HBy:=Blk.new (w6.alloc (.cells #[.int .i64 at',.string (xo ++ ao)] 54)) 5 #[.int .u8 (b:Int)]
       rw [World.size_alloc] at HBy
       have hb8:((b.toUInt8.toNat:Nat):Int) = (b:Int):=by simp; omega
       have hcv:=run_convert_bytes_back (P:=Tryz.prog) ((w6.alloc (.cells #[.int .i64 at',.string (xo ++ ao)] 54)).alloc (.cells #[.int .u8 (b:Int)] 5)) 81 9 5 ⟨w6.heap.size + 1,0,none⟩ 1 [b.toUInt8] Tryz.underlying81 Tryz.underlying5 Tryz.underlying9 (fun j hj => by
        obtain rfl:j = 0:=by simp at hj; exact hj
        show _ = some (Value.int .u8 ((b.toUInt8.toNat:Nat):Int))
        rw [hb8]
        exact HBy.cell 0)
       replace hcv:(convert 81 9 (.slice (some ⟨w6.heap.size + 1,0,none⟩) 1 1)).run Tryz.prog ((w6.alloc (.cells #[.int .i64 at',.string (xo ++ ao)] 54)).alloc (.cells #[.int .u8 (b:Int)] 5)) = .ok (.string ⟨#[b.toUInt8]⟩) _:=hcv
       have hmx3:(xo ++ ao).size + (⟨#[b.toUInt8]⟩:ByteArray).size≤9223372036854775807:=hmx2
       obtain ⟨T,hT⟩:∃ T:ByteArray,T = xo ++ ao ++ ⟨#[UInt8.ofNat b]⟩:=⟨_,rfl⟩
       have hT':xo ++ ao ++ ⟨#[b.toUInt8]⟩ = T:=hT.symm
       have M1:=(Below.refl w6.heap.size w6).alloc (Nat.le_refl _) (.cells #[.int .i64 at',.string T] 54)
       have M2:=M1.alloc M1.size (.cells #[.int .u8 (b:Int)] 5)
       have LL:=M2.alloc M2.size (.cells #[.int .i64 at',.string T] 54)
       have hrd:=reads_allocK ((w6.alloc (.cells #[.int .i64 at',.string T] 54)).alloc (.cells #[.int .u8 (b:Int)] 5)) [.int .i64 at',.string T] 54 2 1 rfl
       rw [World.size_alloc,World.size_alloc] at hrd
       have ho9:=own_below ho7 LL
       have HX9:=HX7.below LL HX7.lt
       have R9:=R7.below (LL.mono (Nat.le_trans hB hb7.size))
       have hb9:=hb7.trans (LL.mono hb7.size)
       have hone:=encT_one ⟨at',T⟩
       have hbase:=hb9.size
       have hvl:=fun g (e:(Value.slice Av S.length cv).ownBlock = some g) => (own_lt ho7 g e).1
       have HFin:=Lib.hid (fun w7 v' (hown:World.ownsRow w7 w.heap.size 54 2 v' (S.length + 1) (encs encT S ++ encT ⟨at',T⟩)) => show World.ownsRow w7 w.heap.size 54 2 v' (S ++ [(⟨at',T⟩:Tp)]).length (encs encT (S ++ [(⟨at',T⟩:Tp)])) by rw [encs_snoc,List.length_append]; exact hown)
       have HT:=Lib.hid hT
       subst hT
       clear L1 HZ M1 M2 hT'
       go_wp2_with (at_builtin; refine wpList_append_any _ rfl _ _ 29 rfl w.heap.size 54 i0 _ 2 24 Tryz.underlying29 hi hy0 hy1 hy2 rfl (by decide) _ _ _ rfl ho9 _ (some ⟨w6.heap.size + 1 + 1,0,none⟩) 1 1 [.int .i64 at',.string (xo ++ ao ++ ByteArray.mk #[UInt8.ofNat b])] rfl hrd hone h63 hby hbase ?_; intro v' w7 hown hgrow hloc)
       go_roundw
       case rel =>
        obtain ⟨hX0,hne⟩:Blk w7 gX 54 #[.int .i64 (x:Int),.string xo]∧v'.ownBlock≠some gX:=⟨HX9.grown hgrow (fun e => hvx e.symm),fun e => by
         rcases hloc with h | h
         ·exact hvx (h.symm.trans e)
         ·have:=Option.some.inj (h.symm.trans e)
          simp at this
          have:=HX7.lt
          omega⟩
        refine ⟨j + 1,v',S ++ [⟨at',xo ++ ao ++ ⟨#[UInt8.ofNat b]⟩⟩],by omega,by go_num,rfl,?_,HFin.out w7 v' hown,by simp; omega,hb9.grown hgrow hbase hvl,hX0,hne,R9.keep fun p hp => ?_⟩
        ·rw [Hn2.out,HS.out,if_pos trivial,List.append_assoc]
         have:xo ++ ((⟨af,at',⟨s1,s2,s3,s4⟩,ao,true⟩:Ar).putB b) = xo ++ ao ++ ⟨#[UInt8.ofNat b]⟩:=bl_inj (by simp [Ar.putB])
         rw [this]
        ·exact cell_kept (hgrow.block _ (by have:=hb9.size; omega) (fun e => by have:=hvl _ e.symm; omega))
       case measure => simp [intOf]; omega
    ·obtain rfl:rl = j:=by omega
     go_wp2
     go_roundw
     case rel => exact ⟨k + 1,v,by omega,by go_num,rfl,by rw [Hnext.out,← List.take_of_length_le (l:=row) (Nat.le_of_eq HRL.out),← HS.out]; exact hown,by rw [Hnext.out,← List.take_of_length_le (l:=row) (Nat.le_of_eq HRL.out),← HS.out]; omega,hb5⟩
     case measure => simp [intOf]; omega
  ·obtain rfl:n = k:=by omega
   rw [List.take_of_length_le (by have:=HLN.out; omega)] at hown
   have HP:=Lib.hid (show BehindPost arcs l b w (.returned v) wr from ⟨v,rfl,hown,hb0⟩)
   go_wp2
   exact bodyPost_ret (v:=v) (by simp [results,Tryz.results98,go_sem]) rfl HP.out
end Go.Proofs.YtcondkihpmmnnaaGreatDoor
