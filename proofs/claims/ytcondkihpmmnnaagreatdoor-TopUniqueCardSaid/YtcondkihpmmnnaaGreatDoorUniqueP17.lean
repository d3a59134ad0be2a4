/- Lemmas, part 17 of 39. No condition. -/
import Derived.Test.YtcondkihpmmnnaaGreatDoorUniqueP13
import Derived.Test.YtcondkihpmmnnaaGreatDoorUniqueP16
import Derived.Test.YtcondkihpmmnnaaGreatDoorUniqueP11
namespace Go.Proofs.YtcondkihpmmnnaaGreatDoor
open Go.RowKit Go.Sort
structure Ch where
 w:World
 G:Nat
 M0:Nat
 M1:Nat
 M2:Nat
 L:Nat
 E:Nat
 n:Nat
 an:Int
 bn:Int
 aS:Value
 aE:Value
 aA:Value
 bS:Value
 bE:Value
 bA:Value
def Ch.P (c:Ch) (k:Nat):Prop:=k < c.w.heap.size∧k≠c.G∧k≠c.M0∧k≠c.M1∧k≠c.M2
def Ch.cs (c:Ch) (vS vE vA:Value) (ov:Bool):Array Value :=
 #[.int .i64 c.an,c.aS,c.aE,c.aA,.int .i64 c.bn,c.bS,c.bE,c.bA,.slice (some ⟨c.L,0,none⟩) c.n c.n,.slice (some ⟨c.E,0,none⟩) c.n c.n,.map (some c.M2),.map (some c.M0),.map (some c.M1),.int .i64 (c.an * c.bn),vS,vE,vA,.bool ov]
structure ChW (c:Ch) (wr:World) (vS vE vA:Value) (S E:List Tp) (A:List Ar) (ov:Bool):Prop where
 box:Blk wr c.G 73 (c.cs vS vE vA ov)
 oS:wr.ownsRow c.w.heap.size 54 2 vS S.length (encs encT S)
 oE:wr.ownsRow c.w.heap.size 54 2 vE E.length (encs encT E)
 oA:wr.ownsRow c.w.heap.size 61 8 vA A.length (encs encA A)
 ap:Apart vS vE
 sS:Seen 54 encT TpW wr c.M0 S
 sE:Seen 54 encT TpW wr c.M1 E
 sA:Seen 61 encA ArW wr c.M2 A
 gG:c.G < c.w.heap.size
 g0:c.M0 < c.w.heap.size
 g1:c.M1 < c.w.heap.size
 g2:c.M2 < c.w.heap.size
 n01:c.M0≠c.M1
 n02:c.M0≠c.M2
 n12:c.M1≠c.M2
 size:c.w.heap.size≤wr.heap.size
 os:wr.os = c.w.os
 tape:wr.tape = c.w.tape
 output:wr.output = c.w.output
 keep:∀ k,c.P k→wr.heap[k]? = c.w.heap[k]?
theorem Seen.blk_ne {α:Type} {T:TypeId} {enc:α→List Value} {ok:α→Prop} {w:World} {b:Nat} {l:List α} (h:Seen T enc ok w b l) {g:Nat} {T':TypeId} {cs:Array Value} (hb:Blk w g T' cs):g≠b:=by
 obtain ⟨n,D,h1,_⟩:=h
 exact fun e => blk_map_ne hb h1 (by rw [e])
theorem Seen.setCell {α:Type} {T:TypeId} {enc:α→List Value} {ok:α→Prop} {w:World} {b:Nat} {l:List α} (h:Seen T enc ok w b l) {a:Addr} (ha:b≠a.block) (u:Value):Seen T enc ok (w.setCell a u) b l:=by
 obtain ⟨n,D,h1,h2⟩:=h
 exact ⟨n,D,h1.setCell ha u,h2⟩
section
variable {c:Ch} {wr w' w1 w2:World} {vS vE vA:Value} {S E:List Tp} {A:List Ar} {ov:Bool}
theorem ChW.neG (h:ChW c wr vS vE vA S E A ov):c.G≠c.M0∧c.G≠c.M1∧c.G≠c.M2:=⟨h.sS.blk_ne h.box,h.sE.blk_ne h.box,h.sA.blk_ne h.box⟩
theorem ChW.call (h:ChW c wr vS vE vA S E A ov) (hb:Below wr.heap.size wr w'):ChW c w' vS vE vA S E A ov:=by
 have hz:=h.size
 have hl:=h.box.lt
 refine ⟨h.box.below hb hl,own_below h.oS hb,own_below h.oE hb,own_below h.oA hb,h.ap,h.sS.below hb (Nat.le_refl _),h.sE.below hb (Nat.le_refl _),h.sA.below hb (Nat.le_refl _),h.gG,h.g0,h.g1,h.g2,h.n01,h.n02,h.n12,Nat.le_trans hz hb.size,
  hb.os.trans h.os,hb.tape.trans h.tape,hb.output.trans h.output,fun k hk => (hb.block k (Nat.lt_of_lt_of_le hk.1 hz)).trans (h.keep k hk)⟩
def Fr (c:Ch) (wr:World) (v:Value) (k:Nat):Prop:=c.w.heap.size≤k∧k < wr.heap.size∧v.ownBlock≠some k
def Stays (c:Ch) (wr:World) (v:Value) (w':World) (v':Value):Prop:=∀ k,Fr c wr v k→Fr c w' v' k∧w'.heap[k]? = wr.heap[k]?
theorem Stays.refl {v:Value}:Stays c wr v wr v:=fun _ h => ⟨h,rfl⟩
theorem Stays.trans {v v1 v2:Value} (h:Stays c wr v w1 v1) (h':Stays c w1 v1 w2 v2):Stays c wr v w2 v2:=fun k hk =>
 have h1:=h k hk
 have h2:=h' k h1.1
 ⟨h2.1,h2.2.trans h1.2⟩
theorem Stays.call {v:Value} (hb:Below wr.heap.size wr w'):Stays c wr v w' v:=fun k hk => ⟨⟨hk.1,Nat.lt_of_lt_of_le hk.2.1 hb.size,hk.2.2⟩,hb.block k hk.2.1⟩
theorem Stays.map {v:Value} {M:Nat} (hg:wr.grownBy w' (some M)) (hM:M < c.w.heap.size):Stays c wr v w' v:=fun k hk =>
 ⟨⟨hk.1,Nat.lt_of_lt_of_le hk.2.1 hg.size,hk.2.2⟩,hg.block k hk.2.1 (fun e => by have:=Option.some.inj e; have:=hk.1; omega)⟩
theorem Stays.app {v v':Value} (hg:wr.grownBy w' v.ownBlock) (hl:v'.ownBlock = v.ownBlock∨v'.ownBlock = some wr.heap.size):Stays c wr v w' v':=fun k hk => by
 refine ⟨⟨hk.1,Nat.lt_of_lt_of_le hk.2.1 hg.size,fun e => ?_⟩,hg.block k hk.2.1 (fun e => hk.2.2 e.symm)⟩
 rcases hl with h | h
 ·exact hk.2.2 (h.symm.trans e)
 ·rw [h] at e; have:=Option.some.inj e; have:=hk.2.1; omega
theorem Stays.set {v:Value} (hG:c.G < c.w.heap.size) (i:Nat) (u:Value):Stays c wr v (wr.setCell ⟨c.G,i,none⟩ u) v:=fun k hk =>
 ⟨⟨hk.1,by rw [World.size_setCell]; exact hk.2.1,hk.2.2⟩,Below.heap_setCell wr _ _ k (by have:=hk.1; show k≠c.G; omega)⟩
theorem Stays.blk {v v':Value} (h:Stays c wr v w' v') {g:Nat} {T:TypeId} {cs:Array Value} (hb:Blk wr g T cs) (hf:Fr c wr v g):Blk w' g T cs:=(h g hf).2.trans hb
theorem Stays.reads {v v':Value} (h:Stays c wr v w' v') {size n:Nat} {A0:Option Addr} {xs:List Value} (hr:ReadsP (Fr c wr v) wr size A0 n xs):ReadsP (Fr c w' v') w' size A0 n xs :=
 (hr.kept fun k hk => (h k hk).2).mono fun k hk => (h k hk).1
theorem ChW.over (h:ChW c wr vS vE vA S E A ov):ChW c (wr.setCell ⟨c.G,17,none⟩ (.bool true)) vS vE vA S E A true:=by
 obtain ⟨n0,n1,n2⟩:=h.neG
 have hS:=own_blk h.oS h.box (by decide)
 have hE:=own_blk h.oE h.box (by decide)
 have hA:=own_blk h.oA h.box (by decide)
 exact ⟨h.box.set_ 17 _,own_setCell h.oS hS _,own_setCell h.oE hE _,own_setCell h.oA hA _,h.ap,h.sS.setCell (fun e => n0 e.symm) _,h.sE.setCell (fun e => n1 e.symm) _,h.sA.setCell (fun e => n2 e.symm) _,h.gG,h.g0,h.g1,h.g2,h.n01,h.n02,h.n12,by simpa using h.size,
  h.os,h.tape,h.output,fun k hk => (Below.heap_setCell wr _ _ k hk.2.1).trans (h.keep k hk)⟩
theorem ChW.own1 {o:Obj} {base M:Nat} {T:TypeId} {size n:Nat} {v:Value} {xs:List Value} (ho:wr.ownsRow base T size v n xs) (hne:some M≠v.ownBlock) (hg1:wr.grownBy w1 (some M)) (hb:base≤wr.heap.size) :
    (w1.alloc o).ownsRow base T size v n xs∧base≤(w1.alloc o).heap.size:=by
 refine ⟨(ho.kept hg1 (.inr fun e => hne e.symm)).alloc o,?_⟩
 have:=hg1.size
 rw [World.size_alloc]
 omega
theorem ChW.putS (h:ChW c wr vS vE vA S E A ov) (x:Tp) (hg1:wr.grownBy w1 (some c.M0)) (hs:Seen 54 encT TpW w1 c.M0 (S ++ [x])) {o:Obj} {v':Value}
    (hg2:(w1.alloc o).grownBy w2 vS.ownBlock) (ho:w2.ownsRow c.w.heap.size 54 2 v' (S.length + 1) (encs encT S ++ encT x)) (hl:v'.ownBlock = vS.ownBlock∨v'.ownBlock = some (w1.alloc o).heap.size) :
    ChW c (w2.setCell ⟨c.G,14,none⟩ v') v' vE vA (S ++ [x]) E A ov:=by
 obtain ⟨n0,n1,n2⟩:=h.neG
 have z0:=h.size
 have z1:=hg1.size
 have z2:=hg2.size
 rw [World.size_alloc] at z2
 have hb1:=(Below.refl w1.heap.size w1).alloc (Nat.le_refl _) o
 have rS:=((h.oS.kept hg1 (.inr fun e => h.sS.ne h.oS e.symm)).alloc o)
 have rE:=((h.oE.kept hg1 (.inr fun e => h.sS.ne h.oE e.symm)).alloc o)
 have rA:=((h.oA.kept hg1 (.inr fun e => h.sS.ne h.oA e.symm)).alloc o)
 have rb:=(h.box.grown hg1 (fun e => n0 (Option.some.inj e))).alloc o
 have rb2:=rb.grown hg2 (fun e => own_blk rS rb (by decide) e.symm)
 have qE:=rE.kept hg2 (Apart.or_none (v:=vE) (v':=vS) h.ap.symm)
 have qA:=rA.kept hg2 (apart_types rA rS (by decide)).or_none
 have tS:=hs.below hb1 (Nat.le_refl _)
 have uS:=tS.kept hg2 (tS.ne rS)
 have tE:=(h.sE.kept hg1 (fun e => h.n01 (Option.some.inj e).symm)).below hb1 (Nat.le_refl _)
 have uE:=tE.kept hg2 (tE.ne rS)
 have tA:=(h.sA.kept hg1 (fun e => h.n02 (Option.some.inj e).symm)).below hb1 (Nat.le_refl _)
 have uA:=tA.kept hg2 (tA.ne rS)
 refine ⟨rb2.set_ 14 v',own_setCell (by rw [List.length_append,encs_snoc]; exact ho) (own_blk ho rb2 (by decide)) _,own_setCell qE (own_blk qE rb2 (by decide)) _,own_setCell qA (own_blk qA rb2 (by decide)) _,?_,uS.setCell (fun e => n0 e.symm) _,uE.setCell (fun e => n1 e.symm) _,uA.setCell (fun e => n2 e.symm) _,h.gG,h.g0,h.g1,h.g2,h.n01,h.n02,h.n12,by rw [World.size_setCell]; omega,?_,?_,?_,fun k hk => ?_⟩
 ·intro g g1 g2
  rcases hl with e | e
  ·exact h.ap g (by rw [← e]; exact g1) g2
  ·rw [e] at g1
   have:=(own_lt rE g g2).2
   have:=Option.some.inj g1
   omega
 ·exact (hg2.os.trans hg1.os).trans h.os
 ·exact (hg2.tape.trans hg1.tape).trans h.tape
 ·exact (hg2.output.trans hg1.output).trans h.output
 ·obtain ⟨k1,k2,k3,k4,k5⟩:=id hk
  have e1:=Below.heap_setCell w2 ⟨c.G,14,none⟩ v' k k2
  have e2:=hg2.block k (by rw [World.size_alloc]; omega) (fun e => by have:=(own_lt rS k e.symm).1; omega)
  have e3:=hb1.block k (by omega)
  have e4:=hg1.block k (by omega) (fun e => k3 (Option.some.inj e))
  exact e1.trans (e2.trans (e3.trans (e4.trans (h.keep k hk))))
theorem ChW.putE (h:ChW c wr vS vE vA S E A ov) (x:Tp) (hg1:wr.grownBy w1 (some c.M1)) (hs:Seen 54 encT TpW w1 c.M1 (E ++ [x])) {o:Obj} {v':Value}
    (hg2:(w1.alloc o).grownBy w2 vE.ownBlock) (ho:w2.ownsRow c.w.heap.size 54 2 v' (E.length + 1) (encs encT E ++ encT x)) (hl:v'.ownBlock = vE.ownBlock∨v'.ownBlock = some (w1.alloc o).heap.size) :
    ChW c (w2.setCell ⟨c.G,15,none⟩ v') vS v' vA S (E ++ [x]) A ov:=by
 obtain ⟨n0,n1,n2⟩:=h.neG
 have z0:=h.size
 have z1:=hg1.size
 have z2:=hg2.size
 rw [World.size_alloc] at z2
 have hb1:=(Below.refl w1.heap.size w1).alloc (Nat.le_refl _) o
 have rS:=((h.oS.kept hg1 (.inr fun e => h.sE.ne h.oS e.symm)).alloc o)
 have rE:=((h.oE.kept hg1 (.inr fun e => h.sE.ne h.oE e.symm)).alloc o)
 have rA:=((h.oA.kept hg1 (.inr fun e => h.sE.ne h.oA e.symm)).alloc o)
 have rb:=(h.box.grown hg1 (fun e => n1 (Option.some.inj e))).alloc o
 have rb2:=rb.grown hg2 (fun e => own_blk rE rb (by decide) e.symm)
 have qS:=rS.kept hg2 (Apart.or_none (v:=vS) (v':=vE) h.ap)
 have qA:=rA.kept hg2 (apart_types rA rE (by decide)).or_none
 have tS:=(h.sS.kept hg1 (fun e => h.n01 (Option.some.inj e))).below hb1 (Nat.le_refl _)
 have uS:=tS.kept hg2 (tS.ne rE)
 have tE:=hs.below hb1 (Nat.le_refl _)
 have uE:=tE.kept hg2 (tE.ne rE)
 have tA:=(h.sA.kept hg1 (fun e => h.n12 (Option.some.inj e).symm)).below hb1 (Nat.le_refl _)
 have uA:=tA.kept hg2 (tA.ne rE)
 refine ⟨rb2.set_ 15 v',own_setCell qS (own_blk qS rb2 (by decide)) _,own_setCell (by rw [List.length_append,encs_snoc]; exact ho) (own_blk ho rb2 (by decide)) _,own_setCell qA (own_blk qA rb2 (by decide)) _,?_,uS.setCell (fun e => n0 e.symm) _,uE.setCell (fun e => n1 e.symm) _,uA.setCell (fun e => n2 e.symm) _,h.gG,h.g0,h.g1,h.g2,h.n01,h.n02,h.n12,by rw [World.size_setCell]; omega,?_,?_,?_,fun k hk => ?_⟩
 ·intro g g1 g2
  rcases hl with e | e
  ·exact h.ap g g1 (by rw [← e]; exact g2)
  ·rw [e] at g2
   have:=(own_lt rS g g1).2
   have:=Option.some.inj g2
   omega
 ·exact (hg2.os.trans hg1.os).trans h.os
 ·exact (hg2.tape.trans hg1.tape).trans h.tape
 ·exact (hg2.output.trans hg1.output).trans h.output
 ·obtain ⟨k1,k2,k3,k4,k5⟩:=id hk
  have e1:=Below.heap_setCell w2 ⟨c.G,15,none⟩ v' k k2
  have e2:=hg2.block k (by rw [World.size_alloc]; omega) (fun e => by have:=(own_lt rE k e.symm).1; omega)
  have e3:=hb1.block k (by omega)
  have e4:=hg1.block k (by omega) (fun e => k4 (Option.some.inj e))
  exact e1.trans (e2.trans (e3.trans (e4.trans (h.keep k hk))))
theorem ChW.putA (h:ChW c wr vS vE vA S E A ov) (x:Ar) (hg1:wr.grownBy w1 (some c.M2)) (hs:Seen 61 encA ArW w1 c.M2 (A ++ [x])) {o:Obj} {v':Value}
    (hg2:(w1.alloc o).grownBy w2 vA.ownBlock) (ho:w2.ownsRow c.w.heap.size 61 8 v' (A.length + 1) (encs encA A ++ encA x)) (_hl:v'.ownBlock = vA.ownBlock∨v'.ownBlock = some (w1.alloc o).heap.size) :
    ChW c (w2.setCell ⟨c.G,16,none⟩ v') vS vE v' S E (A ++ [x]) ov:=by
 obtain ⟨n0,n1,n2⟩:=h.neG
 have z0:=h.size
 have z1:=hg1.size
 have z2:=hg2.size
 rw [World.size_alloc] at z2
 have hb1:=(Below.refl w1.heap.size w1).alloc (Nat.le_refl _) o
 have rS:=((h.oS.kept hg1 (.inr fun e => h.sA.ne h.oS e.symm)).alloc o)
 have rE:=((h.oE.kept hg1 (.inr fun e => h.sA.ne h.oE e.symm)).alloc o)
 have rA:=((h.oA.kept hg1 (.inr fun e => h.sA.ne h.oA e.symm)).alloc o)
 have rb:=(h.box.grown hg1 (fun e => n2 (Option.some.inj e))).alloc o
 have rb2:=rb.grown hg2 (fun e => own_blk rA rb (by decide) e.symm)
 have qS:=rS.kept hg2 (apart_types rS rA (by decide)).or_none
 have qE:=rE.kept hg2 (apart_types rE rA (by decide)).or_none
 have tS:=(h.sS.kept hg1 (fun e => h.n02 (Option.some.inj e))).below hb1 (Nat.le_refl _)
 have uS:=tS.kept hg2 (tS.ne rA)
 have tE:=(h.sE.kept hg1 (fun e => h.n12 (Option.some.inj e))).below hb1 (Nat.le_refl _)
 have uE:=tE.kept hg2 (tE.ne rA)
 have tA:=hs.below hb1 (Nat.le_refl _)
 have uA:=tA.kept hg2 (tA.ne rA)
 refine ⟨rb2.set_ 16 v',own_setCell qS (own_blk qS rb2 (by decide)) _,own_setCell qE (own_blk qE rb2 (by decide)) _,own_setCell (by rw [List.length_append,encs_snoc]; exact ho) (own_blk ho rb2 (by decide)) _,h.ap,uS.setCell (fun e => n0 e.symm) _,uE.setCell (fun e => n1 e.symm) _,uA.setCell (fun e => n2 e.symm) _,h.gG,h.g0,h.g1,h.g2,h.n01,h.n02,h.n12,by rw [World.size_setCell]; omega,?_,?_,?_,fun k hk => ?_⟩
 ·exact (hg2.os.trans hg1.os).trans h.os
 ·exact (hg2.tape.trans hg1.tape).trans h.tape
 ·exact (hg2.output.trans hg1.output).trans h.output
 ·obtain ⟨k1,k2,k3,k4,k5⟩:=id hk
  have e1:=Below.heap_setCell w2 ⟨c.G,16,none⟩ v' k k2
  have e2:=hg2.block k (by rw [World.size_alloc]; omega) (fun e => by have:=(own_lt rA k e.symm).1; omega)
  have e3:=hb1.block k (by omega)
  have e4:=hg1.block k (by omega) (fun e => k5 (Option.some.inj e))
  exact e1.trans (e2.trans (e3.trans (e4.trans (h.keep k hk))))
end
end Go.Proofs.YtcondkihpmmnnaaGreatDoor
namespace Go.Proofs.YtcondkihpmmnnaaGreatDoor
open Go.RowKit Go.Sort
set_option maxRecDepth 100000 in
set_option maxHeartbeats 2000000 in
theorem at_any (G:Nat) (bn x y:Int) (w:World) (hb:w.cell? ⟨G,4,none⟩ = some (.int .i64 bn)) (h1:0≤x) (h2:0≤bn) (h3:x * bn≤2000000) (h4:0≤y) (h5:y≤2000000) :
    Calls Tryz.prog 56 #[.pointer (some ⟨G,0,none⟩),.int .i64 x,.int .i64 y] w fun e w' => e = .returned (.int .i64 (x * bn + y))∧w = w':=by
 have h6:0≤x * bn:=Int.mul_nonneg h1 h2
 have e1:IntKind.i64.wrap (x * bn) = x * bn:=IntWalk.i64_in _ (by omega)
 have e2:IntKind.i64.wrap (x * bn + y) = x * bn + y:=IntWalk.i64_in _ (by omega)
 go_enter Tryz.func56,Tryz.ntmps56
 go_wp2
 go_ret
 exact ⟨rfl,rfl⟩
theorem reads_new {w w':World} {size n:Nat} {A:Option Addr} {xs:List Value} (h:Reads w' w'.heap.size size A n xs) (hg:0 < n→∃ g,A = some ⟨g,0,none⟩∧w.heap.size≤g):ReadsP (fun k => w.heap.size≤k∧k < w'.heap.size) w' size A n xs :=
 ⟨h.1,fun hn => by
  obtain ⟨ad,rfl,hb,hc⟩:=h.2 hn
  obtain ⟨g,e,h1⟩:=hg hn
  have e:=Option.some.inj e
  subst e
  exact ⟨_,rfl,⟨h1,hb⟩,hc⟩⟩
theorem reads_fr {c:Ch} {wr w':World} {v:Value} (hv:∀ g,v.ownBlock = some g→g < wr.heap.size) (hz:c.w.heap.size≤wr.heap.size) {size n:Nat} {A:Option Addr} {xs:List Value} (h:ReadsP (fun k => wr.heap.size≤k∧k < w'.heap.size) w' size A n xs):ReadsP (Fr c w' v) w' size A n xs :=
 h.mono fun k hk => ⟨Nat.le_trans hz hk.1,hk.2,fun e => by have:=hv k e; have:=hk.1; omega⟩
def ChWaysPost (c:Ch) (b:Fs) (y:Int) (t:ByteArray) (wr:World) (vS vE vA:Value) (S E:List Tp) (A:List Ar) (ov:Bool) (e:Ending) (w':World):Prop :=
 ∃ Aw kw cw,e = .returned (.slice Aw kw cw)∧kw≤4096∧(∀ v,Stays c wr v w' v)∧match waysF b.arcs y (bl t) with
  | none => kw = 0∧ChW c w' vS vE vA S E A true
  | some l => kw = l.length∧ReadsP (fun k => wr.heap.size≤k∧k < w'.heap.size) w' 2 Aw kw (encs encT (sortT l))∧ChW c w' vS vE vA S E A ov
set_option maxRecDepth 100000 in
set_option maxHeartbeats 4000000 in
theorem chWays_any (c:Ch) (b:Fs) (wr:World) (vS vE vA:Value) (S E:List Tp) (A:List Ar) (ov:Bool) (HW:ChW c wr vS vE vA S E A ov) (HG:GrpP c.P encA 8 c.w c.L c.n (leavS b.arcs b.arcs.length)) (y:Nat) (t:ByteArray) (hn:c.n≤1024) (hy:y < c.n) (ht:t.size≤1024)
    (hok:∀ x∈b.arcs,ArW x∧0≤x.to∧x.to < c.n∧x.out.size≤1024) (hal:b.arcs.length≤16384) :
    Calls Tryz.prog 54 #[.pointer (some ⟨c.G,0,none⟩),.int .i64 (y:Int),.string t] wr (ChWaysPost c b y t wr vS vE vA S E A ov):=by
 have hG:=(HG.kept HW.keep).read (B:=wr.heap.size) fun k hk => Nat.lt_of_lt_of_le hk.1 HW.size
 have hC:=ways_any b.arcs c.n c.L y t wr.heap.size wr hG (Nat.le_refl _) hn hy ht hok hal
 have b8:wr.cell? ⟨c.G,8,none⟩ = some (.slice (some ⟨c.L,0,none⟩) c.n c.n):=HW.box.cell 8
 have hbd:=fun l h => (waysF_few (fun x hx => (hok x hx).2) hy (bl t).length (bl t) l rfl h).1
 have Hbd:=Lib.hid hbd
 clear HG hok hG hbd
 rcases hw:waysF b.arcs y (bl t) with _ | l
 ·have HP:=Lib.hid (fun w' (hs:∀ v,Stays c wr v w' v) (h:ChW c w' vS vE vA S E A true) => show ChWaysPost c b y t wr vS vE vA S E A ov (.returned (.slice none 0 0)) w' from ⟨none,0,0,rfl,Nat.zero_le _,hs,by rw [hw]; exact ⟨rfl,h⟩⟩)
  rw [hw] at hC
  clear hw
  go_enter Tryz.func54,Tryz.ntmps54
  go_wp2_with fail
  refine hC.mono ?_
  rintro e w1 ⟨hb1,rfl⟩
  have H1:=HW.call hb1
  have f1:=H1.box.frozen 17
  have g1:w1.cell? ⟨c.G,17,none⟩ = some (.bool ov):=H1.box.cell 17
  go_wp2
  go_ret
  exact HP.out _ (fun v => (Stays.call hb1).trans (Stays.set H1.gG 17 _)) H1.over
 ·have HP:=Lib.hid (fun w' Aw cw (hs:∀ v,Stays c wr v w' v) (h1:ReadsP (fun k => wr.heap.size≤k∧k < w'.heap.size) w' 2 Aw l.length (encs encT (sortT l))) (h:ChW c w' vS vE vA S E A ov) => show ChWaysPost c b y t wr vS vE vA S E A ov (.returned (.slice Aw l.length cw)) w' from ⟨Aw,l.length,cw,rfl,Hbd.out l hw,hs,by rw [hw]; exact ⟨rfl,h1,h⟩⟩)
  rw [hw] at hC
  clear hw
  go_enter Tryz.func54,Tryz.ntmps54
  go_wp2_with fail
  refine hC.mono ?_
  rintro e w1 ⟨hb1,Aw,cw,rfl,_,_,hR,hRg⟩
  have hR2:=reads_new hR hRg
  have H1:=HW.call hb1
  go_wp2
  go_ret
  exact HP.out _ _ _ (fun v => Stays.call hb1) hR2 H1
end Go.Proofs.YtcondkihpmmnnaaGreatDoor
namespace Go.Proofs.YtcondkihpmmnnaaGreatDoor
open Go.RowKit Go.Sort
def TipPostS (c:Ch) (x:Tp) (wr:World) (vS vE vA:Value) (S E:List Tp) (A:List Ar) (ov:Bool) (e:Ending) (w':World):Prop :=
 e = .returned (.tuple #[])∧∃ v,Stays c wr vS w' v∧ChW c w' v vE vA (tipF x S ov).1 E A (tipF x S ov).2
set_option maxRecDepth 100000 in
set_option maxHeartbeats 4000000 in
theorem tipS_any (c:Ch) (x:Tp) (wr:World) (vS vE vA:Value) (S E:List Tp) (A:List Ar) (ov:Bool) (HW:ChW c wr vS vE vA S E A ov) (hx:TpW x) (hS:S.length≤1024) :
    Calls Tryz.prog 55 #[.pointer (some ⟨c.G,0,none⟩),.int .i64 0,.pointer (some ⟨c.G,14,none⟩),.agg (encT x).toArray] wr (TipPostS c x wr vS vE vA S E A ov):=by
 obtain ⟨kl,hkey⟩:=keyOf_tip x hx
 have HB:=(Below.refl wr.heap.size wr).alloc (Nat.le_refl _) (.cells (encT x).toArray 54)
 have H1:=HW.call HB
 have HX:=Blk.new wr 54 (encT x).toArray
 have hlk:=fun (n:Nat) os => seen_look law_tip Tryz.underlying70 zero_unit (H1.sS.below (below_regrown (wr.alloc (.cells (encT x).toArray 54)) n os) (Nat.le_refl _)) x hx hkey
 have HP:=Lib.hid (fun w' v S' ov' (he:tipF x S ov = (S',ov')) (hs:Stays c wr vS w' v) (h:ChW c w' v vE vA S' E A ov') => show TipPostS c x wr vS vE vA S E A ov (.returned (.tuple #[])) w' from ⟨rfl,v,hs,by rw [he]; exact h⟩)
 have HF:=Lib.hid (show tipF x S ov = if x∈S∨ov = true then (S,ov) else if 1024≤S.length∨1024 < x.out.size then (S,true) else (S ++ [x],false) from rfl)
 obtain ⟨xs,xo⟩:=x
 replace hkey:keyOf Tryz.prog 54 (.agg #[.int .i64 xs,.string xo]) = some kl:=hkey
 replace HB:Below wr.heap.size wr (wr.alloc (.cells #[.int .i64 xs,.string xo] 54)):=HB
 replace H1:ChW c (wr.alloc (.cells #[.int .i64 xs,.string xo] 54)) vS vE vA S E A ov:=H1
 replace HX:Blk (wr.alloc (.cells #[.int .i64 xs,.string xo] 54)) wr.heap.size 54 #[.int .i64 xs,.string xo]:=HX
 have hmem:=Lib.hid (show (decide ((⟨xs,xo⟩:Tp)∈S) = true↔(⟨xs,xo⟩:Tp)∈S) from decide_eq_true_iff)
 generalize decide ((⟨xs,xo⟩:Tp)∈S) = bm at *
 replace hlk:∀ n os,(Instr.lookup 70 (.map (some c.M0)) (.agg #[.int .i64 xs,.string xo]) true).run Tryz.prog (grow (redrawn (wr.alloc (.cells #[.int .i64 xs,.string xo] 54)) n) os) = .ok (.tuple #[.agg #[],.bool bm]) (grow (redrawn (wr.alloc (.cells #[.int .i64 xs,.string xo] 54)) n) os):=hlk
 have b11:∀ n os,(grow (redrawn (wr.alloc (.cells #[.int .i64 xs,.string xo] 54)) n) os).cell? ⟨c.G,11,none⟩ = some (.map (some c.M0)):=cell_regrown (H1.box.cell 11)
 have x0:=cell_regrown (HX.cell 0)
 have x1:=cell_regrown (HX.cell 1)
 show Calls Tryz.prog 55 #[.pointer (some ⟨c.G,0,none⟩),.int .i64 0,.pointer (some ⟨c.G,14,none⟩),.agg #[.int .i64 xs,.string xo]] wr _
 go_enter Tryz.func55,Tryz.ntmps55
 go_wp2
 refine wp_region_hold_below 13 [0,1,2,3,4,5,6,7,8,9,10] [11,12] (by kernel_rfl) (by kernel_rfl) rfl (by kernel_rfl) ?_
 simp only [pickOps,List.getElem?_cons_zero,List.getElem?_cons_succ,List.drop_succ_cons,List.drop_zero]
 repeat (go_big_quiet_step (fail))
 refine wpQuiet_nil ?_
 clear hlk b11 x0 x1
 have LA:Below (wr.alloc (.cells #[.int .i64 xs,.string xo] 54)).heap.size (wr.alloc (.cells #[.int .i64 xs,.string xo] 54)) ((wr.alloc (.cells #[.int .i64 xs,.string xo] 54)).alloc (.cells #[] 158)).drew:=((Below.refl _ _).alloc (Nat.le_refl _) _).drew
 refine wpForce_step rfl (fun KK hKK => ?_)
 go_simp
 refine hKK _ _ (regrown_of_below LA) ?_
 clear hKK KK
 refine wpForce_step rfl (fun KK hKK => ?_)
 go_simp
 refine hKK _ _ (regrown_of_below LA) ?_
 clear hKK KK
 refine wpForce_nil ?_
 go_wp2
 refine NoPanic.normal ?_
 have hgx:vS.ownBlock≠some wr.heap.size:=fun e => by have:=(own_lt HW.oS _ e).2; omega
 have ST2:Stays c wr vS _ vS:=(Stays.call HB).trans (Stays.call LA)
 have H2:=H1.call LA
 have HX2:=HX.below LA HX.lt
 have hgz:wr.heap.size < ((wr.alloc (.cells #[.int .i64 xs,.string xo] 54)).alloc (.cells #[] 158)).drew.heap.size:=by simp; omega
 clear HB H1 HX LA HW
 generalize ((wr.alloc (.cells #[.int .i64 xs,.string xo] 54)).alloc (.cells #[] 158)).drew = w2 at *
 generalize wr.heap.size = gx at *
 rcases bm with _ | _
 ·have hno:(⟨xs,xo⟩:Tp) ∉ S:=fun h => by have:=hmem.out.2 h; cases this
  have HNO:=Lib.hid hno
  clear hno hmem
  have k17:w2.cell? ⟨c.G,17,none⟩ = some (.bool ov):=H2.box.cell 17
  rcases ov with _ | _
  ·have k14:w2.cell? ⟨c.G,14,none⟩ = some vS:=H2.box.cell 14
   obtain ⟨AS,cS,rfl,s1,s2,s3⟩:=own_form H2.oS
   have y1:=HX2.cell 1
   have y0:=HX2.cell 0
   by_cases hful:1024≤S.length
   ·have hful2:(1024:Int)≤(S.length:Int):=by omega
    have he:tipF ⟨xs,xo⟩ S false = (S,true):=by rw [HF.out,if_neg (by simp [HNO.out]),if_pos (.inl hful)]
    have HE:=Lib.hid he
    have f17:=H2.box.frozen 17
    have H3:=H2.over
    clear he H2 HF
    go_wp2
    go_end0
    exact HP.out _ _ _ _ HE.out (ST2.trans (Stays.set H3.gG 17 _)) H3
   ·have hful2:(S.length:Int) < 1024:=by omega
    by_cases hlong:1024 < xo.size
    ·have hlong2:(1024:Int) < (xo.size:Int):=by omega
     have he:tipF ⟨xs,xo⟩ S false = (S,true):=by rw [HF.out,if_neg (by simp [HNO.out]),if_pos (.inr hlong)]
     have HE:=Lib.hid he
     have f17:=H2.box.frozen 17
     have H3:=H2.over
     clear he H2 HF
     go_wp2
     go_end0
     exact HP.out _ _ _ _ HE.out (ST2.trans (Stays.set H3.gG 17 _)) H3
    ·have hlong2:(xo.size:Int)≤1024:=by omega
     have he:tipF ⟨xs,xo⟩ S false = (S ++ [⟨xs,xo⟩],false):=by rw [HF.out,if_neg (by simp [HNO.out]),if_neg (fun h => h.elim hful hlong)]
     have HE:=Lib.hid he
     clear he HF
     have z11:=cell_regrown (show w2.cell? ⟨c.G,11,none⟩ = some (.map (some c.M0)) from H2.box.cell 11)
     have z0:=cell_regrown (HX2.cell 0)
     have z1:=cell_regrown (HX2.cell 1)
     go_wp2
     refine wp_region_tail_below 8 (by kernel_rfl) (by kernel_rfl) ?_
     simp only [List.take_succ_cons,List.take_zero,List.drop_succ_cons,List.drop_zero]
     repeat (go_big_quiet_step (fail))
     refine wpQuiet_nil ?_
     intro w5 hw5
     have HB5:=below_of hw5
     have H5:=H2.call HB5
     have HX5:=HX2.below HB5 HX2.lt
     obtain ⟨nD,D,hownM,hnD,hIs,hhas⟩:=id H5.sS
     have hnM:nD < maxLen:=by unfold maxLen; omega
     have HAS:=Lib.hid hhas
     have hxM:=blk_map_ne HX5 hownM
     clear hw5 z11 z0 z1 H2 HX2 hhas y0 y1 k14 k17
     go_wp2_with (at_mapUpdate; refine wpList_mapUpdate_own _ rfl _ _ _ 70 rfl 54 158 law_tip Tryz.underlying70 _ c.M0 nD D rfl hownM hnM _ _ kl rfl rfl hkey _ [] unitElem_mk ?_; intro w6 hown6 hg6)
     have hg6d:w5.grownBy w6.drew (some c.M0):=⟨hg6.os,hg6.tape,hg6.output,hg6.size,hg6.block⟩
     have hS6:=seen_put law_tip encT_inj hnD hIs HAS.out ⟨xs,xo⟩ hkey (show w6.drew.ownsMap Tryz.prog 54 unitElem c.M0 (nD + 1) _ from hown6)
     have hbx6:=H5.box.grown hg6d (fun e => H5.neG.1 (Option.some.inj e))
     have hx6:=HX5.grown hg6d hxM
     have ho6:=ChW.own1 (o:=.cells #[.int .i64 xs,.string xo] 54) H5.oS (H5.sS.ne H5.oS) hg6d H5.size
     obtain ⟨Sx,hSdef⟩:∃ Sx:World→Prop,Sx = fun W => Blk W c.G 73 (c.cs (.slice AS S.length cS) vE vA false)∧Blk W gx 54 #[.int .i64 xs,.string xo]:=⟨_,rfl⟩
     have hSi:=fun W h1 h2 => show Sx W by rw [hSdef]; exact ⟨h1,h2⟩
     have hSo:=fun W (h:Sx W) => show Blk W c.G 73 (c.cs (.slice AS S.length cS) vE vA false)∧Blk W gx 54 #[.int .i64 xs,.string xo] by rw [hSdef] at h; exact h
     have z14:=fun p:Held Sx => show p.w.cell? ⟨c.G,14,none⟩ = some (.slice AS S.length cS) from (hSo p.w p.2).1.cell 14
     have z0:=fun p:Held Sx => (hSo p.w p.2).2.cell 0
     have z1:=fun p:Held Sx => (hSo p.w p.2).2.cell 1
     have hS0:Sx w6.drew:=hSi _ hbx6 hx6
     clear hSdef
     have:Nonempty (Held Sx):=⟨⟨_,hS0⟩⟩
     refine wp_region_hold_at Sx 7 [0,1,2,3,4] [5,6] (by kernel_rfl) (by kernel_rfl) rfl (by kernel_rfl) hS0 ?_
     simp only [pickOps,List.getElem?_cons_zero,List.getElem?_cons_succ,List.drop_succ_cons,List.drop_zero,Act.put]
     repeat (go_big_quiet_step (fail))
     refine wpQuiet_nil ?_
     clear z0 z1 z14
     have LA:Below w6.drew.heap.size w6.drew (w6.drew.alloc (.cells #[.int .i64 xs,.string xo] 54)):=(Below.refl _ w6.drew).alloc (Nat.le_refl _) _
     have hbx7:=hbx6.below LA hbx6.lt
     have hx7:=hx6.below LA hx6.lt
     refine wpForce_step rfl (fun KK hKK => ?_)
     go_simp
     refine hKK _ _ (HeldIn.of (hSi _ hbx7 hx7)) ?_
     clear hKK KK
     have hrd:=reads_allocK w6.drew [.int .i64 xs,.string xo] 54 2 1 rfl
     have hone:=encT_one ⟨xs,xo⟩
     have h63:S.length + 1≤maxLen:=by unfold maxLen; omega
     have hby:(S.length + 1) * 24≤140737488355328:=by omega
     obtain ⟨i0,hi,hy0,hy1,hy2⟩:=info_parts tip_info
     refine wpForce_step rfl (fun KK hKK => ?_)
     refine wp_append_any _ _ _ 29 rfl c.w.heap.size 54 i0 _ 2 24 Tryz.underlying29 hi hy0 hy1 hy2 rfl (by decide) _ _ _ rfl ho6.1 _ (some ⟨w6.drew.heap.size,0,none⟩) 1 1 [.int .i64 xs,.string xo] rfl hrd hone h63 hby ho6.2 ?_
     intro v' w7 hown hgrow hloc
     have hbx8:=hbx7.grown hgrow (fun e => own_blk ho6.1 hbx7 (by decide) e.symm)
     have hx8:=hx7.grown hgrow (fun e => hgx e.symm)
     refine hKK _ _ (HeldIn.of (hSi _ hbx8 hx8)) ?_
     clear hKK KK
     have hP7:=H5.putS ⟨xs,xo⟩ hg6d hS6 hgrow hown hloc
     have k14:w7.cell? ⟨c.G,14,none⟩ = some (.slice AS S.length cS):=hbx8.cell 14
     have f14:=hbx8.frozen 14
     have ST7:=(((ST2.trans (Stays.call HB5)).trans (Stays.map hg6d H5.g0)).trans (Stays.call LA)).trans (Stays.app hgrow hloc)
     obtain ⟨Av2,cv2,rfl,_,_,_⟩:=own_form hown
     clear hown hgrow hloc hrd hbx6 hbx7 hx6 hx7 hx8 hbx8 hSi hSo hS0 LA ho6 hS6 H5 HX5 hown6 hownM
     refine wpForce_nil ?_
     go_wp2
     refine NoPanic.normal ?_
     go_wp2
     go_end0
     exact HP.out _ _ _ _ HE.out (ST7.trans (Stays.set hP7.gG 14 _)) hP7
  ·have he:tipF ⟨xs,xo⟩ S true = (S,true):=tipF_over _ _
   have HE:=Lib.hid he
   clear he HF
   go_wp2
   go_end0
   exact HP.out _ _ _ _ HE.out ST2 H2
 ·have hyes:(⟨xs,xo⟩:Tp)∈S:=hmem.out.1 rfl
  have he:tipF ⟨xs,xo⟩ S ov = (S,ov):=by rw [HF.out,if_pos (.inl hyes)]
  have HE:=Lib.hid he
  clear he hyes hmem HF
  go_wp2
  go_end0
  exact HP.out _ _ _ _ HE.out ST2 H2
end Go.Proofs.YtcondkihpmmnnaaGreatDoor
