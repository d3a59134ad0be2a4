/- Lemmas, part 21 of 50. No condition. -/
import Derived.Test.YtcondkihpmmnnaaGreatDoorQ20
import Derived.Test.YtcondkihpmmnnaaGreatDoorQ12
import Derived.Test.YtcondkihpmmnnaaGreatDoorQ05
namespace Go.Proofs.YtcondkihpmmnnaaGreatDoor
open Go.RowKit Go.Sort
theorem ChW.below {c:Ch} {w wr:World} {vS vE vA:Value} {S E:List Tp} {A:List Ar} {ov:Bool} (h:ChW c wr vS vE vA S E A ov) {B:Nat} (hb:Below B w c.w) (hP:∀ k,k < B→c.P k):Below B w wr :=
 ⟨h.os.trans hb.os,h.tape.trans hb.tape,h.output.trans hb.output,Nat.le_trans hb.size h.size,fun k hk => (h.keep k (hP k hk)).trans (hb.block k hk)⟩
theorem fck_parts {t:Fs} (h:fckB t = true):0≤t.n∧t.n≤1024∧(t.starts.length≤1024∧∀ x∈t.starts,0≤x.st∧x.st < t.n∧x.out.size≤1024)∧(t.ends.length≤1024∧∀ x∈t.ends,0≤x.st∧x.st < t.n∧x.out.size≤1024) ∧
    (t.arcs.length≤16384∧∀ x∈t.arcs,0≤x.fr∧x.fr < t.n∧0≤x.to∧x.to < t.n∧x.out.size≤1024∧x.set≠St.none):=by
 unfold fckB tipsB at h
 simp only [Bool.and_eq_true,decide_eq_true_eq,List.all_eq_true] at h
 obtain ⟨⟨⟨⟨⟨h1,h2⟩,h3⟩,h4,h5⟩,h6,h7⟩,h8⟩:=h
 refine ⟨h1,h2,⟨h4,fun x hx => ?_⟩,⟨h6,fun x hx => ?_⟩,h3,fun x hx => ?_⟩
 ·have:=h5 x hx
  unfold tipB stB' at this
  simp only [Bool.and_eq_true,decide_eq_true_eq] at this
  exact ⟨this.1.1,this.1.2,this.2⟩
 ·have:=h7 x hx
  unfold tipB stB' at this
  simp only [Bool.and_eq_true,decide_eq_true_eq] at this
  exact ⟨this.1.1,this.1.2,this.2⟩
 ·have:=h8 x hx
  unfold arcB stB' at this
  simp only [Bool.and_eq_true,decide_eq_true_eq,bne_iff_ne] at this
  exact ⟨this.1.1.1.1,this.1.1.1.2,this.1.1.2.1,this.1.1.2.2,this.2,this.1.2⟩
theorem ChW.fst {c:Ch} {wr:World} {A1 A2 A3:Option Addr} {k1 k2 k3 c1 c2 c3:Nat} {S E:List Tp} {A:List Ar} {ov:Bool} {N:Int} (h:ChW c wr (.slice A1 k1 c1) (.slice A2 k2 c2) (.slice A3 k3 c3) S E A ov) (hn:0≤N∧N≤1024) (hS:TipsB N S) (hE:TipsB N E) (hA:ArcsB N A) :
    FstAt wr wr.heap.size ⟨N,S,E,A⟩ (.agg #[.int .i64 N,.slice A1 k1 c1,.slice A2 k2 c2,.slice A3 k3 c3]):=by
 obtain ⟨B1,d1,e1,u1,m1,_⟩:=own_form h.oS
 obtain ⟨B2,d2,e2,u2,m2,_⟩:=own_form h.oE
 obtain ⟨B3,d3,e3,u3,m3,_⟩:=own_form h.oA
 injection e1 with e1 f1 g1
 injection e2 with e2 f2 g2
 injection e3 with e3 f3 g3
 subst e1 f1 g1 e2 f2 g2 e3 f3 g3
 have tw:∀ {l:List Tp},TipsB N l→∀ x∈l,TpW x:=fun {l} hl x hx => by
  obtain ⟨h1,h2,h3⟩:=hl.2 x hx
  exact ⟨by omega,by omega,by unfold maxLen; omega⟩
 refine ⟨A1,c1,A2,c2,A3,c3,rfl,u1,u2,u3,m1,m2,m3,by show (-9223372036854775808:Int)≤N; omega,by show N≤(9223372036854775807:Int); omega,Reads.of_own h.oS,tw hS,Reads.of_own h.oE,tw hE,Reads.of_own h.oA,fun x hx => ?_⟩
 obtain ⟨h1,h2,h3,h4,h5,h6,_⟩:=hA.2 x hx
 exact ⟨by omega,by omega,by omega,by omega,h6,by unfold maxLen; omega⟩
theorem fckB_of {N:Int} {S E:List Tp} {A:List Ar} (hn:0≤N∧N≤1024) (hS:TipsB N S) (hE:TipsB N E) (hA:ArcsB N A):fckB ⟨N,S,E,A⟩ = true:=by
 have tb:∀ {l:List Tp},TipsB N l→tipsB l N = true:=fun {l} hl => by
  unfold tipsB
  rw [Bool.and_eq_true,decide_eq_true_iff,List.all_eq_true]
  refine ⟨hl.1,fun x hx => ?_⟩
  obtain ⟨h1,h2,h3⟩:=hl.2 x hx
  unfold tipB stB'
  simp only [Bool.and_eq_true,decide_eq_true_eq]
  exact ⟨⟨h1,h2⟩,h3⟩
 unfold fckB
 simp only [Bool.and_eq_true,decide_eq_true_eq,List.all_eq_true]
 refine ⟨⟨⟨⟨⟨hn.1,hn.2⟩,hA.1⟩,tb hS⟩,tb hE⟩,fun x hx => ?_⟩
 obtain ⟨h1,h2,h3,h4,h5,_,h7⟩:=hA.2 x hx
 unfold arcB stB'
 simp only [Bool.and_eq_true,decide_eq_true_eq,bne_iff_ne]
 exact ⟨⟨⟨⟨h1,h2⟩,h3,h4⟩,h7⟩,h5⟩
theorem right_sortF {t:Fs} (h:fckB t = true):Right (sortF t):=by
 obtain ⟨r1,r2,r3,r4⟩:=fckB_right h
 exact ⟨r1,fun x hx => r2 x ((ordT_mem x _).1 hx),fun x hx => r3 x ((ordT_mem x _).1 hx),fun x hx => r4 x ((ordA_mem x _).1 hx)⟩
structure CmW (w wr:World) (G L E M2 n baA baE:Nat) (csA csB cs:Array Value) (vs ves:List Value) (rowsA:Nat→List Ar) (rowsE:Nat→List Tp):Prop where
 ja:Blk wr w.heap.size 32 csA
 jb:Blk wr (w.heap.size + 1) 32 csB
 jr:Blk wr (w.heap.size + 1 + 1) 32 #[.int .i64 0,.slice none 0 0,.slice none 0 0,.slice none 0 0]
 ga:Grp encA 8 wr baA L n 30 61 vs rowsA
 ge:Grp encT 2 wr baE E n 29 54 ves rowsE
 sa:Seen 61 encA ArW wr M2 []
 box:Blk wr G 73 cs
 bel:Below w.heap.size w wr
 lA:w.heap.size≤baA
 lE:w.heap.size≤baE
 lG:w.heap.size + 1 + 1 < G
 lM:w.heap.size≤M2
section
variable {w wr w':World} {G L E M2 n baA baE:Nat} {csA csB cs:Array Value} {vs ves:List Value} {rowsA:Nat→List Ar} {rowsE:Nat→List Tp}
theorem Seen.lt {α:Type} {T:TypeId} {enc:α→List Value} {ok:α→Prop} {w:World} {b:Nat} {l:List α} (h:Seen T enc ok w b l):b < w.heap.size:=by
 obtain ⟨_,_,⟨es,clock,hb,_⟩,_⟩:=h
 rcases Nat.lt_or_ge b w.heap.size with h | h
 ·exact h
 ·rw [Array.getElem?_eq_none h] at hb; cases hb
theorem CmW.call (h:CmW w wr G L E M2 n baA baE csA csB cs vs ves rowsA rowsE) (hb:Below wr.heap.size wr w'):CmW w w' G L E M2 n baA baE csA csB cs vs ves rowsA rowsE:=by
 have hz:=h.bel.size
 exact ⟨h.ja.below hb h.ja.lt,h.jb.below hb h.jb.lt,h.jr.below hb h.jr.lt,h.ga.call hb,h.ge.call hb,h.sa.below hb (Nat.le_refl _),h.box.below hb h.box.lt,h.bel.trans (hb.mono hz),h.lA,h.lE,h.lG,h.lM⟩
theorem CmW.setG (h:CmW w wr G L E M2 n baA baE csA csB cs vs ves rowsA rowsE) (i:Nat) (u:Value):CmW w (wr.setCell ⟨G,i,none⟩ u) G L E M2 n baA baE csA csB (cs.setIfInBounds i u) vs ves rowsA rowsE:=by
 have lG:=h.lG
 refine ⟨h.ja.far (p:=⟨G,i,none⟩) (by simp; omega) _,h.jb.far (p:=⟨G,i,none⟩) (by simp; omega) _,h.jr.far (p:=⟨G,i,none⟩) (by simp; omega) _,h.ga.set (p:=⟨G,i,none⟩) ?_ (fun s hs => own_blk (h.ga.row s hs) h.box (by decide)) u,h.ge.set (p:=⟨G,i,none⟩) ?_ (fun s hs => own_blk (h.ge.row s hs) h.box (by decide)) u,
  h.sa.setCell (fun e => h.sa.blk_ne h.box e.symm) _,h.box.set_ i u,h.bel.setCell (p:=⟨G,i,none⟩) (by show _≤G; omega) _,h.lA,h.lE,h.lG,h.lM⟩
 ·exact fun e => own_blk h.ga.own h.box (by decide) (congrArg some (show L = G from e.symm))
 ·exact fun e => own_blk h.ge.own h.box (by decide) (congrArg some (show E = G from e.symm))
theorem CmW.putE (h:CmW w wr G L E M2 n baA baE csA csB cs vs ves rowsA rowsE) (s:Nat) (hs:s < n) {v':Value} (x:Tp) (hg:wr.grownBy w' (ves.getD s nilV).ownBlock)
    (ho:w'.ownsRow baE 54 2 v' ((rowsE s).length + 1) (encs encT (rowsE s) ++ encT x)) (hl:v'.ownBlock = (ves.getD s nilV).ownBlock∨v'.ownBlock = some wr.heap.size) :
    CmW w (w'.setCell ⟨E,s,none⟩ v') G L E M2 n baA baE csA csB cs vs (ves.set s v') rowsA (fun t => if t = s then rowsE s ++ [x] else rowsE t):=by
 have lG:=h.lG
 have lE:=h.lE
 have hr:=h.ge.row s hs
 have hEl:w.heap.size≤E:=by
  have:=(own_lt h.ge.own E rfl).1
  omega
 have nE:∀ {g:Nat} {T:TypeId} {c:Array Value},Blk wr g T c→54≠T→(ves.getD s nilV).ownBlock≠some g:=fun hb hne => own_blk hr hb hne
 have kb:∀ {g:Nat} {T:TypeId} {c:Array Value},Blk wr g T c→54≠T→29≠T→Blk (w'.setCell ⟨E,s,none⟩ v') g T c:=fun {g T c} hb h1 h2 =>
  (blk_keep hb hg (nE hb h1)).far (p:=⟨E,s,none⟩) (fun e => own_blk h.ge.own hb h2 (by rw [e]; rfl)) _
 have hsm:=h.sa.kept hg (h.sa.ne hr)
 have hge:=h.ge.own.kept hg (apart_types h.ge.own hr (by decide)).or_none
 refine ⟨kb h.ja (by decide) (by decide),kb h.jb (by decide) (by decide),kb h.jr (by decide) (by decide),?_,h.ge.put (by decide) s hs x hg ho hl,hsm.setCell (fun e => hsm.ne hge (by rw [e]; rfl)) _,kb h.box (by decide) (by decide),?_,h.lA,h.lE,h.lG,h.lM⟩
 ·have hk:=h.ga.kept hg (fun e => by
    have:=apart_types hr h.ga.own (by decide) L e
    exact this rfl) (fun t ht => (apart_types (h.ga.row t ht) hr (by decide)).or_none)
  refine hk.set (p:=⟨E,s,none⟩) (fun e => ?_) (fun t ht e => ?_) _
  ·exact apart_types hk.own hge (by decide) L rfl (by show some E = some L; exact congrArg some e)
  ·exact apart_types (hk.row t ht) hge (by decide) E e rfl
 ·exact ((h.bel).grown hg h.bel.size (fun k hk => by have:=(own_lt hr k hk).1; omega)).setCell (p:=⟨E,s,none⟩) hEl _
theorem CmW.grpA (h:CmW w wr G L E M2 n baA baE csA csB cs vs ves rowsA rowsE) {M0 M1:Nat} {l0 l1:List Tp} (h0:Seen 54 encT TpW wr M0 l0) (h1:Seen 54 encT TpW wr M1 l1) :
    GrpP (fun k => k < wr.heap.size∧k≠G∧k≠M0∧k≠M1∧k≠M2) encA 8 wr L n rowsA:=by
 have key:∀ {base:Nat} {e:TypeId} {size m:Nat} {v:Value} {xs:List Value},wr.ownsRow base e size v m xs→e≠73→∀ g,v.ownBlock = some g→g < wr.heap.size∧g≠G∧g≠M0∧g≠M1∧g≠M2:=fun {base e size m v xs} ho hne g hg =>
  ⟨(own_lt ho g hg).2,fun e => own_blk ho h.box hne (by rw [hg,e]),fun e => h0.ne ho (by rw [hg,e]),fun e => h1.ne ho (by rw [hg,e]),fun e => h.sa.ne ho (by rw [hg,e])⟩
 exact GrpP.of_grp h.ga (key h.ga.own (by decide) L rfl) fun s g hs hg => key (h.ga.row s hs) (by decide) g hg
theorem CmW.grpE (h:CmW w wr G L E M2 n baA baE csA csB cs vs ves rowsA rowsE) {M0 M1:Nat} {l0 l1:List Tp} (h0:Seen 54 encT TpW wr M0 l0) (h1:Seen 54 encT TpW wr M1 l1) :
    GrpP (fun k => k < wr.heap.size∧k≠G∧k≠M0∧k≠M1∧k≠M2) encT 2 wr E n rowsE:=by
 have key:∀ {base:Nat} {e:TypeId} {size m:Nat} {v:Value} {xs:List Value},wr.ownsRow base e size v m xs→e≠73→∀ g,v.ownBlock = some g→g < wr.heap.size∧g≠G∧g≠M0∧g≠M1∧g≠M2:=fun {base e size m v xs} ho hne g hg =>
  ⟨(own_lt ho g hg).2,fun e => own_blk ho h.box hne (by rw [hg,e]),fun e => h0.ne ho (by rw [hg,e]),fun e => h1.ne ho (by rw [hg,e]),fun e => h.sa.ne ho (by rw [hg,e])⟩
 exact GrpP.of_grp h.ge (key h.ge.own (by decide) E rfl) fun s g hs hg => key (h.ge.row s hs) (by decide) g hg
end
end Go.Proofs.YtcondkihpmmnnaaGreatDoor
namespace Go.Proofs.YtcondkihpmmnnaaGreatDoor
open Go.RowKit Go.Sort
def StartsPost (c:Ch) (a b:Fs) (vE vA:Value) (E:List Tp) (A:List Ar) (e:Ending) (w':World):Prop :=
 e = .returned (.tuple #[])∧∃ v S ov,ChW c w' v vE vA S E A ov∧Puts S ov (startsL a b)∧TipsB (a.n * b.n) S
set_option maxRecDepth 100000 in
set_option maxHeartbeats 8000000 in
theorem starts_any (c:Ch) (a b:Fs) (HE:ChE c a b) (wr:World) (vS vE vA:Value) (E:List Tp) (A:List Ar) (HW:ChW c wr vS vE vA [] E A false) :
    Calls Tryz.prog 24 #[.pointer (some ⟨c.G,0,none⟩)] wr (StartsPost c a b vE vA E A):=by
 obtain ⟨A1,c1,haS,hR1⟩:=HE.aS
 obtain ⟨A2,c2,hbS,hR2⟩:=HE.bS
 have HP:=Lib.hid (fun w' v S ov (h:ChW c w' v vE vA S E A ov) (h2:Puts S ov (startsL a b)) (h3:TipsB (a.n * b.n) S) => show StartsPost c a b vE vA E A (.returned (.tuple #[])) w' from ⟨rfl,v,S,ov,h,h2,h3⟩)
 have hHs:=HE.hs
 have hKs:=HE.ks
 have hN:=HE.n
 have hBn:=HE.bn
 have hmul:=HE.mul
 have ha0:=HE.a0
 have hcn:=HE.hn
 have HS:=Lib.hid hHs.2
 have KS:=Lib.hid hKs.2
 have hn1:=hHs.1
 have hn2:=hKs.1
 have HN:=Lib.hid hN
 have HBN:=Lib.hid hBn
 have HAS:=Lib.hid haS
 have HBS:=Lib.hid hbS
 have HMUL:=Lib.hid hmul
 have HA0:=Lib.hid ha0
 have b1:∀ w' v S ov,ChW c w' v vE vA S E A ov→w'.cell? ⟨c.G,1,none⟩ = some (.slice A1 a.starts.length c1):=fun w' v S ov h => by rw [← haS]; exact h.box.cell 1
 have b5:∀ w' v S ov,ChW c w' v vE vA S E A ov→w'.cell? ⟨c.G,5,none⟩ = some (.slice A2 b.starts.length c2):=fun w' v S ov h => by rw [← hbS]; exact h.box.cell 5
 have b4:∀ w' v S ov,ChW c w' v vE vA S E A ov→w'.cell? ⟨c.G,4,none⟩ = some (.int .i64 b.n):=fun w' v S ov h => by rw [← hBn]; exact h.box.cell 4
 have b17:∀ w' v S ov,ChW c w' v vE vA S E A ov→w'.cell? ⟨c.G,17,none⟩ = some (.bool ov):=fun w' v S ov h => h.box.cell 17
 have B1:=Lib.hid b1
 have B5:=Lib.hid b5
 have B4:=Lib.hid b4
 have B17:=Lib.hid b17
 clear b1 b5 b4 b17 hHs hKs hN hBn haS hbS hmul ha0
 generalize hl1:a.starts.length = n1 at *
 generalize hl2:b.starts.length = n2 at *
 have HL1:=Lib.hid hl1
 have HL2:=Lib.hid hl2
 clear hl1 hl2
 have c1':=B1.out _ _ _ _ HW
 go_enter Tryz.func24,Tryz.ntmps24
 go_wp2
 clear c1'
 go_loopw [14] (fun i w1 => ∃ (j:Nat) (v:Value) (S:List Tp),j≤n1∧i = .int .i64 ((j:Nat):Int)∧ChW c w1 v vE vA S E A false∧Puts S false ((a.starts.take j).flatMap fun q => b.starts.flatMap (stT b q))∧TipsB (a.n * b.n) S) (fun i _ => n1 - (intOf i).toNat)
 case atStart => exact ⟨0,vS,[],Nat.zero_le _,rfl,HW,Puts.nil,⟨Nat.zero_le _,fun _ h => (List.not_mem_nil h).elim⟩⟩
 case round =>
  clear HW
  obtain ⟨j,v1,S1,hj,rfl,HW1,hp1,ht1⟩:=hrel
  have Hp1:=Lib.hid hp1
  have Ht1:=Lib.hid ht1
  clear hp1 ht1
  by_cases hlt:j < n1
  ·have hi1:(0:Int)≤(j:Int):=by omega
   have hi2:(j:Int) < (n1:Int):=by omega
   obtain ⟨g,o,rfl,hgB,d0,d1⟩:=tip_cell ((hR1.kept HW1.keep).reads (B:=wr.heap.size) fun k hk => Nat.lt_of_lt_of_le hk.1 HW1.size) j hlt
   have hq:=HS.out _ (getD_in a.starts tp0 j (by have:=HL1.out; omega))
   have Hpre:=Lib.hid (flatMap_next a.starts tp0 (fun q => b.starts.flatMap (stT b q)) j (by have:=HL1.out; omega))
   generalize a.starts.getD j tp0 = q at *
   obtain ⟨qs,qo⟩:=q
   simp only at d0 d1 hq
   have HW2:=HW1.call ((Below.refl wr.heap.size wr).alloc (Nat.le_refl _) (.cells #[.int .i64 qs,.string qo] 54))
   have HG3:=Blk.new wr 54 #[.int .i64 qs,.string qo]
   have HF3:Fr c (wr.alloc (.cells #[.int .i64 qs,.string qo] 54)) v1 wr.heap.size:=⟨HW1.size,by simp,fun e => by have:=(own_lt HW1.oS _ e).2; omega⟩
   have c5:=B5.out _ _ _ _ HW2
   clear HW1
   go_wp2
   generalize wr.heap.size = G3 at *
   clear d0 d1 c5
   go_loopw [24] (fun i w2 => ∃ (k:Nat) (v:Value) (S:List Tp),k≤n2∧i = .int .i64 ((k:Nat):Int)∧ChW c w2 v vE vA S E A false∧Puts S false (((a.starts.take j).flatMap fun q => b.starts.flatMap (stT b q)) ++ (b.starts.take k).flatMap (stT b ⟨qs,qo⟩))∧TipsB (a.n * b.n) S∧Blk w2 G3 54 #[.int .i64 qs,.string qo]∧Fr c w2 v G3) (fun i _ => n2 - (intOf i).toNat)
   case atStart => exact ⟨0,v1,S1,Nat.zero_le _,rfl,HW2,by rw [List.take_zero,List.flatMap_nil,List.append_nil]; exact Hp1.out,Ht1.out,HG3,HF3⟩
   case round =>
    clear HW2 HG3 HF3
    obtain ⟨k,v2,S2,hk,rfl,HW2,hp2,ht2,HG3,HF3⟩:=hrel
    have Hp2:=Lib.hid hp2
    have Ht2:=Lib.hid ht2
    clear hp2 ht2
    by_cases hlt2:k < n2
    ·have hk1:(0:Int)≤(k:Int):=by omega
     have hk2:(k:Int) < (n2:Int):=by omega
     obtain ⟨g',o',rfl,hgB',e0,e1⟩:=tip_cell ((hR2.kept HW2.keep).reads (B:=wr.heap.size) fun k hk => Nat.lt_of_lt_of_le hk.1 HW2.size) k hlt2
     have hr:=KS.out _ (getD_in b.starts tp0 k (by have:=HL2.out; omega))
     have Hpre2:=Lib.hid (flatMap_next b.starts tp0 (stT b ⟨qs,qo⟩) k (by have:=HL2.out; omega))
     generalize b.starts.getD k tp0 = r at *
     obtain ⟨rs,ro⟩:=r
     simp only at e0 e1 hr
     have LB:=(Below.refl wr.heap.size wr).alloc (Nat.le_refl _) (.cells #[.int .i64 rs,.string ro] 54)
     have HW3:=HW2.call LB
     have HG5:=Blk.new wr 54 #[.int .i64 rs,.string ro]
     have HF5:Fr c (wr.alloc (.cells #[.int .i64 rs,.string ro] 54)) v2 wr.heap.size:=⟨HW2.size,by simp,fun e => by have:=(own_lt HW2.oS _ e).2; omega⟩
     have HG3':=(Stays.call (c:=c) (v:=v2) LB).blk HG3 HF3
     have HF3':=((Stays.call (c:=c) (v:=v2) LB) _ HF3).1
     have hG31:=HG3'.cell 1
     have hG50:=HG5.cell 0
     obtain ⟨y,rfl⟩:∃ y:Nat,rs = (y:Int):=⟨_,(Int.toNat_of_nonneg hr.1).symm⟩
     have hy:y < c.n:=by have:=HN.out; omega
     have hC:=chWaysG_any HE _ v2 vE vA S2 E A HW3 y qo hy hq.2.2
     have hv2:∀ g,v2.ownBlock = some g→g < (wr.alloc (.cells #[.int .i64 (y:Int),.string ro] 54)).heap.size:=fun g e => (own_lt HW3.oS g e).2
     have hz3:=HW3.size
     clear HW2 HG3 HF3 HW3 LB hgB'
     go_wp2_with fail
     refine hC.mono ?_
     rintro e w3 ⟨Aw,cw,l,ov3,rfl,hl3,hst,hRw,HW4,hok,hel⟩
     have HG3:=(hst v2).blk HG3' HF3'
     have HF3:=(hst v2 _ HF3').1
     have HG5':=(hst v2).blk HG5 HF5
     have HF5':=(hst v2 _ HF5).1
     have hRf:=reads_fr hv2 hz3 hRw
     have HOK:=Lib.hid hok
     have HEL:=Lib.hid hel
     clear hC hst hRw hok hel hG31 hG50 e0 e1 HG3' HF3' HG5 HF5 hv2 hz3
     generalize hml:l.length = m at *
     have HML:=Lib.hid hml
     generalize wr.heap.size = G5 at *
     clear hml
     go_wp2
     go_loopw [35] (fun i w4 => ∃ (x:Nat) (v:Value) (S:List Tp) (ov:Bool),x≤m∧i = .int .i64 ((x:Nat):Int)∧ChW c w4 v vE vA S E A ov∧Puts S ov ((((a.starts.take j).flatMap fun q => b.starts.flatMap (stT b q)) ++ (b.starts.take k).flatMap (stT b ⟨qs,qo⟩)) ++ (l.take x).map fun u => some (stX b ⟨qs,qo⟩ ⟨(y:Int),ro⟩ u))∧TipsB (a.n * b.n) S∧Blk w4 G3 54 #[.int .i64 qs,.string qo]∧Fr c w4 v G3∧Blk w4 G5 54 #[.int .i64 (y:Int),.string ro]∧Fr c w4 v G5∧ReadsP (Fr c w4 v) w4 2 Aw m (encs encT l)∧(ov = false→ov3 = false)) (fun i _ => m - (intOf i).toNat)
     case atStart => exact ⟨0,v2,S2,ov3,Nat.zero_le _,rfl,HW4,by rw [List.take_zero,List.map_nil,List.append_nil]; exact fun h => by (have:=Hp2.out); exact this rfl,Ht2.out,HG3,HF3,HG5',HF5',hRf,id⟩
     case round =>
      clear HW4 HG3 HF3 HG5' HF5' hRf
      obtain ⟨x,v4,S4,ov4,hx,rfl,HW4,hp4,ht4,HG3,HF3,HG5,HF5,hRf,hov⟩:=hrel
      have Hp4:=Lib.hid hp4
      have Ht4:=Lib.hid ht4
      have Hov:=Lib.hid hov
      clear hp4 ht4 hov
      by_cases hlt3:x < m
      ·have hx1:(0:Int)≤(x:Int):=by omega
       have hx2:(x:Int) < (m:Int):=by omega
       obtain ⟨gw,ow,rfl,hgw,u0,u1⟩:=tip_cell (hRf.reads (B:=wr.heap.size) fun k hk => hk.2.1) x hlt3
       have hp:=HEL.out _ (getD_in l tp0 x (by have:=HML.out; omega))
       have Hpre3:=Lib.hid (map_next l tp0 (fun u => some (stX b ⟨qs,qo⟩ ⟨(y:Int),ro⟩ u)) x (by have:=HML.out; omega))
       generalize l.getD x tp0 = p at *
       obtain ⟨ps,po⟩:=p
       simp only at u0 u1 hp
       have hpl:=pair_lt hq.1 hq.2.1 hp.1 (show ps < b.n by have:=HN.out; omega)
       have hm2:=HMUL.out
       have hb0:0≤b.n:=by have:=HN.out; omega
       have LB:=(Below.refl wr.heap.size wr).alloc (Nat.le_refl _) (.cells #[.int .i64 ps,.string po] 54)
       have HW5:=HW4.call LB
       have HG7:=Blk.new wr 54 #[.int .i64 ps,.string po]
       have HF7:Fr c (wr.alloc (.cells #[.int .i64 ps,.string po] 54)) v4 wr.heap.size:=⟨HW4.size,by simp,fun e => by have:=(own_lt HW4.oS _ e).2; omega⟩
       have ST:=Stays.call (c:=c) (v:=v4) LB
       have HG3':=ST.blk HG3 HF3
       have HG5':=ST.blk HG5 HF5
       have HF3':=(ST _ HF3).1
       have HF5':=(ST _ HF5).1
       have HR':=ST.reads hRf
       have k30:=cell_regrown (HG3'.cell 0)
       have k51:=cell_regrown (HG5'.cell 1)
       have k70:=cell_regrown (HG7.cell 0)
       have k71:=cell_regrown (HG7.cell 1)
       have hat:=fun n os => at_gives c.G b.n qs ps _ (cell_regrown (B4.out _ _ _ _ HW5) n os) hq.1 hb0 (by omega) hp.1 (by omega)
       have hT:=fun W (h:ChW c W v4 vE vA S4 E A ov4) => tipS_any c (stX b ⟨qs,qo⟩ ⟨(y:Int),ro⟩ ⟨ps,po⟩) W v4 vE vA S4 E A ov4 h ⟨by show (-9223372036854775808:Int)≤qs * b.n + ps; omega,by show qs * b.n + ps≤(9223372036854775807:Int); omega,by show (ro ++ po).size≤maxLen; unfold maxLen; have e:=congrArg List.length (bl_app ro po); rw [bl_len,List.length_append,bl_len,bl_len] at e; omega⟩ Ht4.out.1
       replace hT:∀ W,ChW c W v4 vE vA S4 E A ov4→Calls Tryz.prog 55 #[.pointer (some ⟨c.G,0,none⟩),.int .i64 0,.pointer (some ⟨c.G,14,none⟩),.agg #[.int .i64 (qs * b.n + ps),.string (ro ++ po)]] W _:=hT
       have HT:=Lib.hid hT
       have hro:ro.size≤1024:=hr.2.2
       have hpo:po.size≤1049600:=hp.2.2
       clear hT HG3 HG5 HF3 HF5 hRf LB HW4 hm2 hpl hgw ST
       go_wp2
       clear u0 u1
       refine wp_region_tail_below 17 (by kernel_rfl) (by kernel_rfl) ?_
       simp only [List.take_succ_cons,List.take_zero,List.drop_succ_cons,List.drop_zero]
       repeat (go_big_quiet_step ((go_at_call 56; exact gives_quiet (hat _ _))))
       refine wpQuiet_nil ?_
       intro w5 hw5
       have LB:=below_of hw5
       have HW6:=HW5.call LB
       have ST:=Stays.call (c:=c) (v:=v4) LB
       have HG3:=ST.blk HG3' HF3'
       have HG5:=ST.blk HG5' HF5'
       have HF3:=(ST _ HF3').1
       have HF5:=(ST _ HF5').1
       have HR6:=ST.reads HR'
       clear hw5 hat k30 k51 k70 k71 HW5 HG3' HG5' HF3' HF5' HR' LB HG7 HF7 ST
       go_wp2_with fail
       refine (HT.out _ HW6).mono ?_
       rintro e w7 ⟨rfl,v7,ST7,HW7⟩
       have HG3':=ST7.blk HG3 HF3
       have HG5':=ST7.blk HG5 HF5
       have HF3':=(ST7 _ HF3).1
       have HF5':=(ST7 _ HF5).1
       have HR7:=ST7.reads HR6
       have hp7:=Hp4.out.tip (stX b ⟨qs,qo⟩ ⟨(y:Int),ro⟩ ⟨ps,po⟩)
       rw [List.append_assoc (_ ++ _),← Hpre3.out] at hp7
       have Hp7:=Lib.hid hp7
       have Ht7:=Lib.hid (Ht4.out.tip (stX b ⟨qs,qo⟩ ⟨(y:Int),ro⟩ ⟨ps,po⟩) ov4 (by
        have hpl:=pair_lt hq.1 hq.2.1 hp.1 (show ps < b.n by have:=HN.out; omega)
        exact ⟨hpl.1,hpl.2.1⟩))
       have Hov7:=Lib.hid (fun h => Hov.out (tipF_false (x:=stX b ⟨qs,qo⟩ ⟨(y:Int),ro⟩ ⟨ps,po⟩) (S:=S4) h))
       clear hp7
       go_wp2
       go_roundw
       case rel => exact ⟨x + 1,v7,_,_,by omega,by go_num,HW7,Hp7.out,Ht7.out,HG3',HF3',HG5',HF5',HR7,Hov7.out⟩
       case measure => simp [intOf]; omega
      ·obtain rfl:x = m:=by omega
       have c17:=B17.out _ _ _ _ HW4
       rcases ov4 with _ | _
       ·have hfin:Puts S4 false (((a.starts.take j).flatMap fun q => b.starts.flatMap (stT b q)) ++ (b.starts.take (k + 1)).flatMap (stT b ⟨qs,qo⟩)):=by
          have:=Hp4.out
          have e:l.take x = l:=List.take_of_length_le (by have:=HML.out; omega)
          obtain ⟨l0,hw0,hl0⟩:=HOK.out (Hov.out rfl)
          rw [e] at this
          rw [Hpre2.out,← List.append_assoc]
          have e2:stT b ⟨qs,qo⟩ ⟨(y:Int),ro⟩ = l.map fun u => some (stX b ⟨qs,qo⟩ ⟨(y:Int),ro⟩ u):=by
           unfold stT
           simp only
           rw [hw0,hl0]
          rw [e2]
          exact this
        have Hfin:=Lib.hid hfin
        clear hfin
        go_wp2
        go_roundw
        case rel => exact ⟨k + 1,v4,S4,by omega,by go_num,HW4,Hfin.out,Ht4.out,HG3,HF3⟩
        case measure => simp [intOf]; omega
       ·go_wp2
        go_end0
        exact HP.out _ _ _ _ HW4 (Puts.over _ _) Ht4.out
    ·obtain rfl:k = n2:=by omega
     have hfin:Puts S2 false ((a.starts.take (j + 1)).flatMap fun q => b.starts.flatMap (stT b q)):=by
      have:=Hp2.out
      have e:b.starts.take k = b.starts:=List.take_of_length_le (by have:=HL2.out; omega)
      rw [e] at this
      rw [Hpre.out]
      exact this
     have Hfin:=Lib.hid hfin
     clear hfin
     go_wp2
     go_roundw
     case rel => exact ⟨j + 1,v2,S2,by omega,by go_num,HW2,Hfin.out,Ht2.out⟩
     case measure => simp [intOf]; omega
  ·obtain rfl:j = n1:=by omega
   have hfin:Puts S1 false (startsL a b):=by
    have:=Hp1.out
    rwa [List.take_of_length_le (by have:=HL1.out; omega)] at this
   have Hfin:=Lib.hid hfin
   clear hfin
   go_wp2
   go_end0
   exact HP.out _ _ _ _ HW1 Hfin.out Ht1.out
end Go.Proofs.YtcondkihpmmnnaaGreatDoor
namespace Go.Proofs.YtcondkihpmmnnaaGreatDoor
def nums:List Nat→Nat→Int
 | [],_ => -1
 | x :: l,s => if s = x then (l.length:Int) else nums l s
def numF (l:List Nat) (s:Nat):Int:=nums l.reverse s
theorem numF_nil (s:Nat):numF [] s = -1:=rfl
theorem numF_snoc (l:List Nat) (x s:Nat):numF (l ++ [x]) s = if s = x then (l.length:Int) else numF l s:=by
 unfold numF
 rw [List.reverse_append]
 show (if s = x then (l.reverse.length:Int) else nums l.reverse s) = _
 rw [List.length_reverse]
theorem nums_ge:∀ (l:List Nat) (s:Nat),-1≤nums l s∧nums l s < (l.length:Int)∧(0≤nums l s↔s∈l)
 | [],s => by simp [nums]
 | x :: l,s => by
  obtain ⟨h1,h2,h3⟩:=nums_ge l s
  unfold nums
  by_cases h:s = x
  ·rw [if_pos h]; subst h; simp; omega
  ·rw [if_neg h]; simp [h,h3]; omega
theorem nums_inj:∀ (l:List Nat) (s z:Nat),0≤nums l s→nums l s = nums l z→s = z
 | [],s,z,h,_ => by simp [nums] at h
 | x :: l,s,z,h,he => by
  unfold nums at h he
  by_cases h1:s = x
  ·rw [if_pos h1] at he
   by_cases h2:z = x
   ·rw [h1,h2]
   ·rw [if_neg h2] at he
    have:=(nums_ge l z).2.1
    omega
  ·rw [if_neg h1] at h he
   by_cases h2:z = x
   ·rw [if_pos h2] at he
    have:=(nums_ge l s).2.1
    omega
   ·rw [if_neg h2] at he
    exact nums_inj l s z h he
theorem nums_sur:∀ (l:List Nat),l.Nodup→∀ k:Nat,k < l.length→∃ s∈l,nums l s = (k:Int)
 | [],_,k,h => by cases h
 | x :: l,hd,k,h => by
  rw [List.nodup_cons] at hd
  by_cases hk:k = l.length
  ·exact ⟨x,List.mem_cons_self,by unfold nums; rw [if_pos rfl,hk]⟩
  ·obtain ⟨s,hs,he⟩:=nums_sur l hd.2 k (by simp at h; omega)
   refine ⟨s,List.mem_cons_of_mem _ hs,?_⟩
   have hne:s≠x:=fun e => by subst e; exact hd.1 hs
   show (if s = x then (l.length:Int) else nums l s) = _
   rw [if_neg hne,he]
theorem numF_ge (l:List Nat) (s:Nat):-1≤numF l s∧numF l s < (l.length:Int)∧(0≤numF l s↔s∈l):=by
 have:=nums_ge l.reverse s
 rw [List.length_reverse,List.mem_reverse] at this
 exact this
theorem numF_inj (l:List Nat) (s z:Nat) (h:0≤numF l s) (he:numF l s = numF l z):s = z:=nums_inj _ _ _ h he
theorem numF_sur (l:List Nat) (hd:l.Nodup) (k:Nat) (hk:k < l.length):∃ s∈l,numF l s = (k:Int):=by
 obtain ⟨s,hs,he⟩:=nums_sur l.reverse (by unfold List.Nodup; rw [List.pairwise_reverse]; exact hd.imp Ne.symm) k (by rw [List.length_reverse]; exact hk)
 exact ⟨s,List.mem_reverse.1 hs,he⟩
def trT (ys:List Nat) (l:List Tp):List Tp:=(l.filter fun x => decide (0≤numF ys x.st.toNat)).map fun x => ⟨numF ys x.st.toNat,x.out⟩
def trA (ys:List Nat) (l:List Ar):List Ar:=(l.filter fun x => decide (0≤numF ys x.fr.toNat∧0≤numF ys x.to.toNat)).map fun x => ⟨numF ys x.fr.toNat,numF ys x.to.toNat,x.set,x.out,x.cp⟩
def trF (t:Fs) (ys:List Nat):Fs:=⟨(ys.length:Int),trT ys t.starts,trT ys t.ends,trA ys t.arcs⟩
theorem trT_next (ys:List Nat) (l:List Tp) (k:Nat) (hk:k < l.length):trT ys (l.take (k + 1)) = trT ys (l.take k) ++ if 0≤numF ys (l.getD k tp0).st.toNat then [⟨numF ys (l.getD k tp0).st.toNat,(l.getD k tp0).out⟩] else []:=by
 unfold trT
 rw [take_next l tp0 k hk,List.filter_append,List.map_append]
 by_cases h:0≤numF ys (l.getD k tp0).st.toNat
 ·rw [if_pos h,List.filter_cons_of_pos (by simpa using h)]; rfl
 ·rw [if_neg h,List.filter_cons_of_neg (by simpa using h)]; simp
theorem trA_next (ys:List Nat) (l:List Ar) (k:Nat) (hk:k < l.length):trA ys (l.take (k + 1)) = trA ys (l.take k) ++ if 0≤numF ys (l.getD k ar0).fr.toNat∧0≤numF ys (l.getD k ar0).to.toNat then [⟨numF ys (l.getD k ar0).fr.toNat,numF ys (l.getD k ar0).to.toNat,(l.getD k ar0).set,(l.getD k ar0).out,(l.getD k ar0).cp⟩] else []:=by
 unfold trA
 rw [take_next l ar0 k hk,List.filter_append,List.map_append]
 by_cases h:0≤numF ys (l.getD k ar0).fr.toNat∧0≤numF ys (l.getD k ar0).to.toNat
 ·rw [if_pos h,List.filter_cons_of_pos (by simpa using h)]; rfl
 ·rw [if_neg h,List.filter_cons_of_neg (by simpa using h)]; simp
theorem trT_len (ys:List Nat) (l:List Tp):(trT ys l).length≤l.length:=by unfold trT; rw [List.length_map]; exact List.length_filter_le _ _
theorem trA_len (ys:List Nat) (l:List Ar):(trA ys l).length≤l.length:=by unfold trA; rw [List.length_map]; exact List.length_filter_le _ _
end Go.Proofs.YtcondkihpmmnnaaGreatDoor
