/- Lemmas, part 25 of 39. No condition. -/
import Derived.Test.YtcondkihpmmnnaaGreatDoorUniqueP24
import Derived.Test.YtcondkihpmmnnaaGreatDoorUniqueP23
import Derived.Test.YtcondkihpmmnnaaGreatDoorUniqueP10
import Derived.Test.YtcondkihpmmnnaaGreatDoorUniqueP14
import Derived.Test.YtcondkihpmmnnaaGreatDoorUniqueP06
import Derived.Test.YtcondkihpmmnnaaGreatDoorUniqueP22
import Derived.Test.YtcondkihpmmnnaaGreatDoorUniqueP08
namespace Go.Proofs.YtcondkihpmmnnaaGreatDoor
open Go.RowKit Go.Sort Go.Shelf
theorem slice_info_int:(Tryz.prog.info? 3).map (fun i => (i.zero,i.size,i.bytes)) = some (some (.int .i64 0),1,8):=by kernel_rfl
def TrimPost (t:Fs) (w:World) (e:Ending) (w':World):Prop :=
 ∃ u r,GF u r w e w'∧(r = 0→fckB t = true∧fckB u = true∧∃ f,Trims t u f)∧(r = 0∨r = 1)∧(fckB t = true→r = 0)
def numV (n:Nat) (l:List Nat):Array Value:=((List.range n).map fun s => Value.int .i64 (numF l s)).toArray
structure TrW (w W:World) (gN BN G6 n:Nat) (cst:Array Value) (pre:List Nat):Prop where
 bt:Blk W w.heap.size 32 cst
 br:Blk W (w.heap.size + 1) 32 #[.int .i64 0,.slice none 0 0,.slice none 0 0,.slice none 0 0]
 bN:Blk W BN 55 #[.slice (some ⟨gN,0,none⟩) n n]
 nN:Blk W gN 3 (numV n pre)
 b6:Blk W G6 32 #[.int .i64 (pre.length:Int),.slice none 0 0,.slice none 0 0,.slice none 0 0]
 bel:Below w.heap.size w W
 l6:w.heap.size + 1 < G6
 lN:w.heap.size≤gN
section
variable {w W W':World} {gN BN G6 n:Nat} {cst:Array Value} {pre:List Nat}
theorem TrW.call (h:TrW w W gN BN G6 n cst pre) (hb:Below W.heap.size W W'):TrW w W' gN BN G6 n cst pre :=
 ⟨h.bt.below hb h.bt.lt,h.br.below hb h.br.lt,h.bN.below hb h.bN.lt,h.nN.below hb h.nN.lt,h.b6.below hb h.b6.lt,h.bel.trans (hb.mono h.bel.size),h.l6,h.lN⟩
theorem TrW.own:OwnFrom w.heap.size (fun (p:List (Fin n)) W => TrW w W gN BN G6 n cst (p.map Fin.val)):=fun p A B row h hg hr => by
 have hne:∀ {g:Nat} {T:TypeId} {cs:Array Value},Blk A g T cs→some g≠row:=fun {g T cs} hb e => by
  obtain ⟨_,o,ho,hc⟩:=hr g e.symm
  unfold Blk at hb
  rw [hb] at ho
  cases ho
  cases hc
 exact ⟨h.bt.grown hg (hne h.bt),h.br.grown hg (hne h.br),h.bN.grown hg (hne h.bN),h.nN.grown hg (hne h.nN),h.b6.grown hg (hne h.b6),h.bel.grown hg h.bel.size (fun k hk => (hr k hk).1),h.l6,h.lN⟩
end
theorem numV_set (n:Nat) (l:List Nat) (x:Nat):(numV n l).setIfInBounds x (.int .i64 (l.length:Int)) = numV n (l ++ [x]):=by
 unfold numV
 rw [List.setIfInBounds_toArray]
 congr 1
 apply List.ext_getElem?
 intro k
 rw [List.getElem?_set,List.getElem?_map,List.getElem?_map]
 by_cases hk:k < n
 ·rw [List.getElem?_range hk]
  by_cases hx:x = k
  ·subst hx
   simp [hk,numF_snoc]
  ·simp [hx,numF_snoc,Ne.symm hx]
 ·have e:(List.range n)[k]? = none:=List.getElem?_eq_none (by simpa using hk)
  rw [e]
  by_cases hx:x = k
  ·subst hx; simp [hk]
  ·simp [hx]
theorem numV_cell {W:World} {g n:Nat} {l:List Nat} (h:Blk W g 3 (numV n l)) (s:Nat) (hs:s < n):W.cell? ⟨g,s,none⟩ = some (.int .i64 (numF l s)):=by
 rw [h.cell]
 unfold numV
 simp [hs]
def zerV (n k:Nat):Array Value:=((List.range n).map fun s => Value.int .i64 (if s < k then -1 else 0)).toArray
theorem zerV_set (n k:Nat):(zerV n k).setIfInBounds k (.int .i64 (-1)) = zerV n (k + 1):=by
 unfold zerV
 rw [List.setIfInBounds_toArray]
 congr 1
 apply List.ext_getElem?
 intro j
 rw [List.getElem?_set,List.getElem?_map,List.getElem?_map]
 by_cases hj:j < n
 ·rw [List.getElem?_range hj]
  by_cases hx:k = j
  ·subst hx
   simp [hj]
  ·have:(j < k + 1)↔(j < k):=by omega
   simp [hx,this]
 ·have e:(List.range n)[j]? = none:=List.getElem?_eq_none (by simpa using hj)
  rw [e]
  by_cases hx:k = j
  ·subst hx; simp [hj]
  ·simp [hx]
theorem zerV_zero (n:Nat):zerV n 0 = (List.replicate n (Value.int .i64 0)).toArray:=by
 unfold zerV
 congr 1
 apply List.ext_getElem?
 intro j
 rw [List.getElem?_map,List.getElem?_replicate]
 by_cases hj:j < n
 ·rw [List.getElem?_range hj]; simp [hj]
 ·rw [List.getElem?_eq_none (by simpa using hj)]; simp [hj]
theorem zerV_all (n:Nat):zerV n n = numV n []:=by
 unfold zerV numV
 congr 1
 apply List.map_congr_left
 intro s hs
 rw [if_pos (List.mem_range.1 hs),numF_nil]
theorem ownFrom_le {β:Type} {B B':Nat} {I:β→World→Prop} (h:OwnFrom B I) (hB:B≤B'):OwnFrom B' I:=fun s W W' row hs hg hr => h s W W' row hs hg (fun r e => ⟨Nat.le_trans hB (hr r e).1,(hr r e).2⟩)
theorem useful_stops (d:Nat) (hd:1≤d) (t:Fs) (w w5:World) (Bt Bo Bb L1 L2 n ba:Nat) (A1 A2 A3:Option Addr) (n1 c1 n2 c2 n3 c3:Nat) (v1 v2:List Value)
    (h:UsW w w5 Bt Bo Bb L1 L2 n ba #[.int .i64 (n:Int),.slice A1 n1 c1,.slice A2 n2 c2,.slice A3 n3 c3] v1 v2 (onS t.arcs t.arcs.length) (backS t.arcs t.arcs.length))
    (hR1:Reads w5 w5.heap.size 2 A1 n1 (encs encT t.starts)) (hR2:Reads w5 w5.heap.size 2 A2 n2 (encs encT t.ends)) (hn:n≤1024)
    (hs1:n1≤100000∧∀ x∈t.starts,0≤x.st∧x.st < (n:Int)) (hs2:n2≤100000∧∀ x∈t.ends,0≤x.st∧x.st < (n:Int)) (hal:t.arcs.length≤16384) (hok:∀ x∈t.arcs,0≤x.fr∧x.fr < (n:Int)∧0≤x.to∧x.to < (n:Int)) :
    SeqStopsK Fence.wide d Tryz.prog 91 #[.pointer (some ⟨Bt,0,none⟩),.pointer (some ⟨Bo,0,none⟩),.pointer (some ⟨Bb,0,none⟩)] (fun x:Fin n => #[.int .i64 ((x.val:Nat):Int)]) (KeepF w5.heap.size) (fun ys => Uses t n (ys.map Fin.val)) (fun _ => True) n w5:=by
 intro l J Jx W hW hJ hJx hY h0
 have g1:GrpP (fun k => k < W.heap.size) encI 1 W L1 n (onS t.arcs t.arcs.length):=by
  have h1:=h.g1.call hW
  exact GrpP.of_grp h1 (own_lt h1.own L1 rfl).2 (fun s g hs hg => (own_lt (h1.row s hs) g hg).2)
 have g2:GrpP (fun k => k < W.heap.size) encI 1 W L2 n (backS t.arcs t.arcs.length):=by
  have h1:=h.g2.call hW
  exact GrpP.of_grp h1 (own_lt h1.own L2 rfl).2 (fun s g hs hg => (own_lt (h1.row s hs) g hg).2)
 refine (useful1_in d hd l Bt Bo Bb L1 L2 n w5.heap.size t A1 A2 A3 n1 c1 n2 c2 n3 c3 (fun ys W => ∃ ys':List (Fin n),ys'.map Fin.val = ys∧J ys' W) (fun ys W => ∃ ys':List (Fin n),ys'.map Fin.val = ys∧Jx ys' W) W
  (fun s A B row hs hg hr => by obtain ⟨ys',e,hj⟩:=hs; exact ⟨ys',e,hJ ys' A B row hj hg hr⟩) hW.size ?_ (h.bt.below hW h.bt.lt) (h.bo.below hW h.bo.lt) (h.bb.below hW h.bb.lt) g1 g2
  ((hR1.below hW).more hW.size) ((hR2.below hW).more hW.size) hn hs1 hs2 hal hok ⟨[],rfl,h0⟩).mono ?_
 ·rintro pre x W1 hx ⟨ys',rfl,hj⟩ hlt
  rw [List.length_map] at hlt
  refine (hY ys' ⟨x,hx⟩ W1 hj hlt).mono ?_
  rintro e W' (⟨h1,h2,h3⟩ | ⟨h1,h2⟩)
  ·exact .inl ⟨h1,⟨_,by rw [List.map_append]; rfl,h2⟩,h3⟩
  ·exact .inr ⟨h1,⟨_,by rw [List.map_append]; rfl,h2⟩⟩
 ·rintro e W' ⟨h1,(⟨ys,hu,ys',rfl,hj⟩ | ⟨pre,_,ys',rfl,hj⟩)⟩
  ·exact ⟨h1,.inl ⟨ys',hu,hj⟩⟩
  ·exact ⟨h1,.inr ⟨ys',trivial,hj⟩⟩
end Go.Proofs.YtcondkihpmmnnaaGreatDoor
namespace Go.Proofs.YtcondkihpmmnnaaGreatDoor
theorem some_byte (s:St) (h:StW s) (hn:s≠St.none):∃ b:UInt8,s.m b.toNat = true:=by
 refine Classical.byContradiction fun hc => hn ?_
 have hm:∀ b,b < 256→s.m b = false:=fun b hb => by
  rcases hh:s.m b with _ | _
  ·rfl
  ·exact (hc ⟨UInt8.ofNat b,by rw [show (UInt8.ofNat b).toNat = b from by simp [Nat.mod_eq_of_lt hb]]; exact hh⟩).elim
 have hw:∀ i,i < 4→word s.m i = 0:=fun i hi => by
  apply Nat.eq_of_testBit_eq
  intro k
  rw [Nat.zero_testBit,word_testBit]
  by_cases hk:k < 64
  ·rw [hm _ (by omega)]; simp
  ·simp [hk]
 obtain ⟨h1,h2,h3,h4⟩:=St.word_m s h
 rw [hw 0 (by decide)] at h1
 rw [hw 1 (by decide)] at h2
 rw [hw 2 (by decide)] at h3
 rw [hw 3 (by decide)] at h4
 obtain ⟨a,b,c,d⟩:=s
 simp only at h1 h2 h3 h4
 rw [h1,h2,h3,h4]
 rfl
section
variable {A:List Ar} {n:Nat}
theorem mem_onS {s:Nat} {z:Int}:z∈onS A A.length s↔∃ x∈A,x.fr = (s:Int)∧x.to = z:=by
 unfold onS
 rw [List.take_length,List.mem_map]
 constructor
 ·rintro ⟨x,hx,e⟩
  rw [List.mem_filter,decide_eq_true_iff] at hx
  exact ⟨x,hx.1,hx.2,e⟩
 ·rintro ⟨x,hx,e1,e2⟩
  exact ⟨x,List.mem_filter.2 ⟨hx,by simpa using e1⟩,e2⟩
theorem mem_backS {s:Nat} {z:Int}:z∈backS A A.length s↔∃ x∈A,x.to = (s:Int)∧x.fr = z:=by
 unfold backS
 rw [List.take_length,List.mem_map]
 constructor
 ·rintro ⟨x,hx,e⟩
  rw [List.mem_filter,decide_eq_true_iff] at hx
  exact ⟨x,hx.1,hx.2,e⟩
 ·rintro ⟨x,hx,e1,e2⟩
  exact ⟨x,List.mem_filter.2 ⟨hx,by simpa using e1⟩,e2⟩
theorem way_of_rt (hA:∀ x∈A,StW x.set∧x.set≠St.none) {s z:Nat} (h:RT (onS A A.length) s z):∃ w o,Way A (s:Int) w o (z:Int):=by
 induction h with
 | refl => exact ⟨_,_,.nil _⟩
 | step _ hz ih =>
  obtain ⟨w,o,hw⟩:=ih
  obtain ⟨x,hx,e1,e2⟩:=mem_onS.1 hz
  obtain ⟨b,hb⟩:=some_byte x.set (hA x hx).1 (hA x hx).2
  have hk:Way A x.to [] [] x.to:=.nil _
  rw [← e2]
  exact ⟨_,_,hw.app (.cons x hx e1 hb hk)⟩
theorem way_of_rtB (hA:∀ x∈A,StW x.set∧x.set≠St.none) {s z:Nat} (h:RT (backS A A.length) s z):∃ w o,Way A (z:Int) w o (s:Int):=by
 induction h with
 | refl => exact ⟨_,_,.nil _⟩
 | step _ hz ih =>
  obtain ⟨w,o,hw⟩:=ih
  obtain ⟨x,hx,e1,e2⟩:=mem_backS.1 hz
  obtain ⟨b,hb⟩:=some_byte x.set (hA x hx).1 (hA x hx).2
  rw [← e1] at hw
  exact ⟨b :: w,_,Way.cons x hx e2 hb hw⟩
theorem rt_of_way (hok:∀ x∈A,0≤x.to):∀ {s z:Int} {w o:List UInt8},Way A s w o z→0≤s→RT (onS A A.length) s.toNat z.toNat∧RT (backS A A.length) z.toNat s.toNat:=by
 intro s z w o h
 induction h with
 | nil s => exact fun _ => ⟨.refl _,.refl _⟩
 | @cons s z b w o x hx hs hb _ ih =>
  intro h0
  obtain ⟨i1,i2⟩:=ih (hok x hx)
  have e1:((s.toNat:Nat):Int) = s:=Int.toNat_of_nonneg h0
  have e2:((x.to.toNat:Nat):Int) = x.to:=Int.toNat_of_nonneg (hok x hx)
  exact ⟨RT.head (mem_onS.2 ⟨x,hx,by rw [e1]; exact hs,e2.symm⟩) i1,.step i2 (mem_backS.2 ⟨x,hx,e2.symm,by rw [e1]; exact hs⟩)⟩
end
theorem uses_use {t:Fs} {n:Nat} (hn:t.n = (n:Int)) (hS:∀ x∈t.starts,0≤x.st∧x.st < t.n) (hE:∀ x∈t.ends,0≤x.st∧x.st < t.n) (hA:∀ x∈t.arcs,0≤x.fr∧x.fr < t.n∧0≤x.to∧x.to < t.n∧StW x.set∧x.set≠St.none)
    (s:Nat) (hs:s < n):(Leads t.starts (onS t.arcs t.arcs.length) s∧Leads t.ends (backS t.arcs t.arcs.length) s)↔Useful t (s:Int):=by
 have hA':∀ x∈t.arcs,StW x.set∧x.set≠St.none:=fun x hx => ⟨(hA x hx).2.2.2.2.1,(hA x hx).2.2.2.2.2⟩
 have hto:∀ x∈t.arcs,0≤x.to:=fun x hx => (hA x hx).2.2.1
 constructor
 ·rintro ⟨⟨x,hx,s1,e1,h1⟩,⟨y,hy,s2,e2,h2⟩⟩
  obtain ⟨w1,o1,k1⟩:=way_of_rt hA' h1
  obtain ⟨w2,o2,k2⟩:=way_of_rtB hA' h2
  refine ⟨⟨by omega,by omega⟩,⟨x,hx,w1,o1,by rw [e1]; exact k1⟩,⟨y,hy,w2,o2,by rw [e2]; exact k2⟩⟩
 ·rintro ⟨_,⟨x,hx,w1,o1,k1⟩,⟨y,hy,w2,o2,k2⟩⟩
  have r1:=(rt_of_way hto k1 (hS x hx).1).1
  have r2:=(rt_of_way hto k2 (by omega)).2
  rw [Int.toNat_natCast] at r1 r2
  exact ⟨⟨x,hx,_,(Int.toNat_of_nonneg (hS x hx).1).symm,r1⟩,⟨y,hy,_,(Int.toNat_of_nonneg (hE y hy).1).symm,r2⟩⟩
theorem trims_of {t:Fs} {n:Nat} {zs:List Nat} (hn:t.n = (n:Int)) (hS:∀ x∈t.starts,0≤x.st∧x.st < t.n) (hE:∀ x∈t.ends,0≤x.st∧x.st < t.n) (hA:∀ x∈t.arcs,0≤x.fr∧x.fr < t.n∧0≤x.to∧x.to < t.n∧StW x.set∧x.set≠St.none)
    (hU:Uses t n zs):Trims t (sortF (trF t zs)) (fun s => numF zs s.toNat):=by
 obtain ⟨p,hp,rfl⟩:=hU
 have hmem:∀ s,s < n→(s∈(List.range n).filter p↔Useful t (s:Int)):=fun s hs => by
  rw [List.mem_filter,List.mem_range,hp s hs,uses_use hn hS hE hA s hs]
  exact ⟨fun h => h.2,fun h => ⟨hs,h⟩⟩
 have hnd:((List.range n).filter p).Nodup:=List.nodup_range.filter _
 have hlt:∀ s∈(List.range n).filter p,s < n:=fun s hs => List.mem_range.1 (List.mem_filter.1 hs).1
 generalize (List.range n).filter p = zs at *
 have hcast:∀ s:Int,stOk t.n s→((s.toNat:Nat):Int) = s∧s.toNat < n:=fun s hs => by
  have:=hs.1
  have:=hs.2
  exact ⟨Int.toNat_of_nonneg hs.1,by omega⟩
 refine ⟨Int.natCast_nonneg _,fun s hs => ?_,fun s hs => (numF_ge zs s.toNat).2.1,fun s z hs hz h0 he => ?_,fun k hk => ?_,fun y => ?_,fun y => ?_,fun e => ?_⟩
 ·obtain ⟨h1,h2⟩:=hcast s hs
  have:=hmem s.toNat h2
  rw [h1] at this
  exact (numF_ge zs s.toNat).2.2.trans this
 ·have h1:=(hcast s hs).1
  have h2:=(hcast z hz).1
  have:=numF_inj zs s.toNat z.toNat h0 he
  rw [← h1,← h2,this]
 ·have hk1:0≤k:=hk.1
  have hk2:k < (zs.length:Int):=hk.2
  obtain ⟨s,hs,he⟩:=numF_sur zs hnd k.toNat (by omega)
  refine ⟨(s:Int),⟨by omega,by have:=hlt s hs; omega⟩,?_⟩
  show numF zs ((s:Int).toNat) = k
  rw [Int.toNat_natCast,he]
  exact Int.toNat_of_nonneg hk1
 ·show y∈ordT (trT zs t.starts)↔_
  rw [ordT_mem]
  unfold trT
  rw [List.mem_map]
  constructor
  ·rintro ⟨x,hx,rfl⟩; rw [List.mem_filter,decide_eq_true_iff] at hx; exact ⟨x,hx.1,hx.2,rfl⟩
  ·rintro ⟨x,hx,h0,rfl⟩; exact ⟨x,List.mem_filter.2 ⟨hx,by simpa using h0⟩,rfl⟩
 ·show y∈ordT (trT zs t.ends)↔_
  rw [ordT_mem]
  unfold trT
  rw [List.mem_map]
  constructor
  ·rintro ⟨x,hx,rfl⟩; rw [List.mem_filter,decide_eq_true_iff] at hx; exact ⟨x,hx.1,hx.2,rfl⟩
  ·rintro ⟨x,hx,h0,rfl⟩; exact ⟨x,List.mem_filter.2 ⟨hx,by simpa using h0⟩,rfl⟩
 ·show e∈ordA (trA zs t.arcs)↔_
  rw [ordA_mem]
  unfold trA
  rw [List.mem_map]
  constructor
  ·rintro ⟨x,hx,rfl⟩; rw [List.mem_filter,decide_eq_true_iff] at hx; exact ⟨x,hx.1,hx.2.1,hx.2.2,rfl⟩
  ·rintro ⟨x,hx,h0,h1,rfl⟩; exact ⟨x,List.mem_filter.2 ⟨hx,by simpa using ⟨h0,h1⟩⟩,rfl⟩
theorem trT_B {zs:List Nat} {l:List Tp} (hl:l.length≤1024) (h:∀ x∈l,x.out.size≤1024):TipsB (zs.length:Int) (trT zs l):=by
 refine ⟨Nat.le_trans (trT_len zs l) hl,fun x hx => ?_⟩
 unfold trT at hx
 obtain ⟨y,hy,rfl⟩:=List.mem_map.1 hx
 rw [List.mem_filter,decide_eq_true_iff] at hy
 exact ⟨hy.2,(numF_ge zs _).2.1,h y hy.1⟩
theorem trA_B {zs:List Nat} {l:List Ar} (hl:l.length≤16384) (h:∀ x∈l,x.out.size≤1024∧StW x.set∧x.set≠St.none):ArcsB (zs.length:Int) (trA zs l):=by
 refine ⟨Nat.le_trans (trA_len zs l) hl,fun x hx => ?_⟩
 unfold trA at hx
 obtain ⟨y,hy,rfl⟩:=List.mem_map.1 hx
 rw [List.mem_filter,decide_eq_true_iff] at hy
 exact ⟨hy.2.1,(numF_ge zs _).2.1,hy.2.2,(numF_ge zs _).2.1,(h y hy.1).1,(h y hy.1).2.1,(h y hy.1).2.2⟩
theorem ordT_len (l:List Tp):(ordT l).length≤l.length:=by
 have:=once1_len (sortT l) (sortT l).length
 rw [List.take_length,sortT_len] at this
 exact this
theorem ordA_len (l:List Ar):(ordA l).length≤l.length:=by
 have:=once1_len (sortA l) (sortA l).length
 rw [List.take_length] at this
 exact Nat.le_trans this (Nat.le_of_eq (List.length_mergeSort _))
theorem fckB_sort {N:Int} {S E:List Tp} {A:List Ar} (hn:0≤N∧N≤1024) (hS:TipsB N S) (hE:TipsB N E) (hA:ArcsB N A):fckB (sortF ⟨N,S,E,A⟩) = true :=
 fckB_of hn ⟨Nat.le_trans (ordT_len _) hS.1,fun x hx => hS.2 x ((ordT_mem _ _).1 hx)⟩ ⟨Nat.le_trans (ordT_len _) hE.1,fun x hx => hE.2 x ((ordT_mem _ _).1 hx)⟩ ⟨Nat.le_trans (ordA_len _) hA.1,fun x hx => hA.2 x ((ordA_mem _ _).1 hx)⟩
end Go.Proofs.YtcondkihpmmnnaaGreatDoor
namespace Go.Proofs.YtcondkihpmmnnaaGreatDoor
open Go.RowKit Go.Sort
section
variable {w w' w1:World} {B0 P0 G MB:Nat} {vA vE:Value} {most:Int} {fr:ByteArray} {vR vN vO vEn vT:Value} {tv nv ov:List Value} {S:Mk} {M M':Nat→Prop}
theorem MkV.putN (h:MkV w B0 P0 G MB vA vE most fr vR vN vO vEn vT tv nv ov S M) {w2:World} (hb2:Below w.heap.size w w2) {w3:World} {v':Value} {v:Value} {l:List Int} (hv:SlR M w 1 v l.length (l.map (Value.int .i64))) (hg3:w2.grownBy w3 vN.ownBlock) (ho:w3.ownsRow P0 55 1 v' (S.next.length + 1) (nv ++ [v])) (hnew:v'.ownBlock = vN.ownBlock∨v'.ownBlock = some w2.heap.size) :
    MkV (w3.setCell ⟨G,6,none⟩ v') B0 P0 G MB vA vE most fr vR v' vO vEn vT tv (nv ++ [v]) ov { S with next:=S.next ++ [l] } (fun g => M g∨v'.ownBlock = some g):=by
 have box2:=h.box.below hb2 h.box.lt
 have z2:=hb2.size
 have z3:=hg3.size
 have oR2:=own_below h.oR hb2
 have oN2:=own_below h.oN hb2
 have oO2:=own_below h.oO hb2
 have oE2:=own_below h.oE hb2
 have oT2:=own_below h.oT hb2
 have box3:=blk_keep box2 hg3 (own_blk oN2 box2 (by decide))
 have oR3:=oR2.kept hg3 (apart_types oR2 oN2 (by decide)).or_none
 have oO3:=oO2.kept hg3 (apart_types oO2 oN2 (by decide)).or_none
 have oE3:=oE2.kept hg3 (apart_types oE2 oN2 (by decide)).or_none
 have oT3:=oT2.kept hg3 (apart_types oT2 oN2 (by decide)).or_none
 have n3:=num_grown (h.num.below hb2 (Nat.le_refl _)) oN2 hg3
 have hne:G≠MB:=num_block h.num h.box
 have hk:∀ g,g < w.heap.size→¬ M g→(w3.setCell ⟨G,6,none⟩ v').heap[g]? = w.heap[g]?:=fun g hlt hn => by
  rw [Below.heap_setCell _ _ _ _ (show g≠G from fun e => hn (e ▸ h.mG)),hg3.block g (by omega) (fun e => hn (h.mN g e.symm)),hb2.block g hlt]
 have hz:w.heap.size≤(w3.setCell ⟨G,6,none⟩ v').heap.size:=by simp; omega
 have hM:∀ g,g < w.heap.size→(M g∨v'.ownBlock = some g)→M g:=fun g hlt e => by
  rcases e with e | e
  ·exact e
  ·rcases hnew with f | f
   ·exact h.mN g (f ▸ e)
   ·rw [f] at e; have:=Option.some.inj e; omega
 have hs:∀ {k n:Nat} {u:Value} {xs:List Value},SlR M w k u n xs→SlR (fun g => M g∨v'.ownBlock = some g) (w3.setCell ⟨G,6,none⟩ v') k u n xs:=fun hu => (hu.set hM).keep hz fun g hlt hn => hk g hlt (fun e => hn (.inl e))
 exact {
  box:=box3.set_ 6 v'
  num:=n3.setCell (fun e => hne e) v'
  oR:=own_setCell oR3 (own_blk oR3 box3 (by decide)) _
  oN:=by rw [List.length_append]; exact own_setCell ho (own_blk ho box3 (by decide)) _
  oO:=own_setCell oO3 (own_blk oO3 box3 (by decide)) _
  oE:=own_setCell oE3 (own_blk oE3 box3 (by decide)) _
  oT:=own_setCell oT3 (own_blk oT3 box3 (by decide)) _
  tips:=fun i hi => hs (h.tips i hi)
  nexts:=slr_snoc (d:=[]) (len:=List.length) (enc:=fun r:List Int => r.map (Value.int .i64)) l v (by have:=h.oN.1; omega) (fun i hi => hs (h.nexts i hi)) (hs hv)
  outss:=fun i hi => hs (h.outss i hi)
  le:=h.le
  sz:=Nat.le_trans h.sz hz
  gG:=h.gG
  gM:=h.gM
  low:=fun g hg => .inl (h.low g hg)
  mG:=.inl h.mG
  mM:=.inl h.mM
  mR:=fun g e => .inl (h.mR g e)
  mN:=fun g e => .inr e
  mO:=fun g e => .inl (h.mO g e)
  mE:=fun g e => .inl (h.mE g e)
  mT:=fun g e => .inl (h.mT g e) }
theorem MkV.putO (h:MkV w B0 P0 G MB vA vE most fr vR vN vO vEn vT tv nv ov S M) {w2:World} (hb2:Below w.heap.size w w2) {w3:World} {v':Value} {v:Value} {l:List ByteArray} (hv:SlR M w 1 v l.length (l.map Value.string)) (hg3:w2.grownBy w3 vO.ownBlock) (ho:w3.ownsRow P0 25 1 v' (S.outs.length + 1) (ov ++ [v])) (hnew:v'.ownBlock = vO.ownBlock∨v'.ownBlock = some w2.heap.size) :
    MkV (w3.setCell ⟨G,7,none⟩ v') B0 P0 G MB vA vE most fr vR vN v' vEn vT tv nv (ov ++ [v]) { S with outs:=S.outs ++ [l] } (fun g => M g∨v'.ownBlock = some g):=by
 have box2:=h.box.below hb2 h.box.lt
 have z2:=hb2.size
 have z3:=hg3.size
 have oR2:=own_below h.oR hb2
 have oN2:=own_below h.oN hb2
 have oO2:=own_below h.oO hb2
 have oE2:=own_below h.oE hb2
 have oT2:=own_below h.oT hb2
 have box3:=blk_keep box2 hg3 (own_blk oO2 box2 (by decide))
 have oR3:=oR2.kept hg3 (apart_types oR2 oO2 (by decide)).or_none
 have oN3:=oN2.kept hg3 (apart_types oN2 oO2 (by decide)).or_none
 have oE3:=oE2.kept hg3 (apart_types oE2 oO2 (by decide)).or_none
 have oT3:=oT2.kept hg3 (apart_types oT2 oO2 (by decide)).or_none
 have n3:=num_grown (h.num.below hb2 (Nat.le_refl _)) oO2 hg3
 have hne:G≠MB:=num_block h.num h.box
 have hk:∀ g,g < w.heap.size→¬ M g→(w3.setCell ⟨G,7,none⟩ v').heap[g]? = w.heap[g]?:=fun g hlt hn => by
  rw [Below.heap_setCell _ _ _ _ (show g≠G from fun e => hn (e ▸ h.mG)),hg3.block g (by omega) (fun e => hn (h.mO g e.symm)),hb2.block g hlt]
 have hz:w.heap.size≤(w3.setCell ⟨G,7,none⟩ v').heap.size:=by simp; omega
 have hM:∀ g,g < w.heap.size→(M g∨v'.ownBlock = some g)→M g:=fun g hlt e => by
  rcases e with e | e
  ·exact e
  ·rcases hnew with f | f
   ·exact h.mO g (f ▸ e)
   ·rw [f] at e; have:=Option.some.inj e; omega
 have hs:∀ {k n:Nat} {u:Value} {xs:List Value},SlR M w k u n xs→SlR (fun g => M g∨v'.ownBlock = some g) (w3.setCell ⟨G,7,none⟩ v') k u n xs:=fun hu => (hu.set hM).keep hz fun g hlt hn => hk g hlt (fun e => hn (.inl e))
 exact {
  box:=box3.set_ 7 v'
  num:=n3.setCell (fun e => hne e) v'
  oR:=own_setCell oR3 (own_blk oR3 box3 (by decide)) _
  oN:=own_setCell oN3 (own_blk oN3 box3 (by decide)) _
  oO:=by rw [List.length_append]; exact own_setCell ho (own_blk ho box3 (by decide)) _
  oE:=own_setCell oE3 (own_blk oE3 box3 (by decide)) _
  oT:=own_setCell oT3 (own_blk oT3 box3 (by decide)) _
  tips:=fun i hi => hs (h.tips i hi)
  nexts:=fun i hi => hs (h.nexts i hi)
  outss:=slr_snoc (d:=[]) (len:=List.length) (enc:=fun r:List ByteArray => r.map Value.string) l v (by have:=h.oO.1; omega) (fun i hi => hs (h.outss i hi)) (hs hv)
  le:=h.le
  sz:=Nat.le_trans h.sz hz
  gG:=h.gG
  gM:=h.gM
  low:=fun g hg => .inl (h.low g hg)
  mG:=.inl h.mG
  mM:=.inl h.mM
  mR:=fun g e => .inl (h.mR g e)
  mN:=fun g e => .inl (h.mN g e)
  mO:=fun g e => .inr e
  mE:=fun g e => .inl (h.mE g e)
  mT:=fun g e => .inl (h.mT g e) }
theorem MkV.putE (h:MkV w B0 P0 G MB vA vE most fr vR vN vO vEn vT tv nv ov S M) {w2:World} (hb2:Below w.heap.size w w2) {w3:World} {v':Value} {x:Bool}  (hg3:w2.grownBy w3 vEn.ownBlock) (ho:w3.ownsRow P0 4 1 v' (S.ends.length + 1) (S.ends.map Value.bool ++ [.bool x])) (hnew:v'.ownBlock = vEn.ownBlock∨v'.ownBlock = some w2.heap.size) :
    MkV (w3.setCell ⟨G,8,none⟩ v') B0 P0 G MB vA vE most fr vR vN vO v' vT tv nv ov { S with ends:=S.ends ++ [x] } (fun g => M g∨v'.ownBlock = some g):=by
 have box2:=h.box.below hb2 h.box.lt
 have z2:=hb2.size
 have z3:=hg3.size
 have oR2:=own_below h.oR hb2
 have oN2:=own_below h.oN hb2
 have oO2:=own_below h.oO hb2
 have oE2:=own_below h.oE hb2
 have oT2:=own_below h.oT hb2
 have box3:=blk_keep box2 hg3 (own_blk oE2 box2 (by decide))
 have oR3:=oR2.kept hg3 (apart_types oR2 oE2 (by decide)).or_none
 have oN3:=oN2.kept hg3 (apart_types oN2 oE2 (by decide)).or_none
 have oO3:=oO2.kept hg3 (apart_types oO2 oE2 (by decide)).or_none
 have oT3:=oT2.kept hg3 (apart_types oT2 oE2 (by decide)).or_none
 have n3:=num_grown (h.num.below hb2 (Nat.le_refl _)) oE2 hg3
 have hne:G≠MB:=num_block h.num h.box
 have hk:∀ g,g < w.heap.size→¬ M g→(w3.setCell ⟨G,8,none⟩ v').heap[g]? = w.heap[g]?:=fun g hlt hn => by
  rw [Below.heap_setCell _ _ _ _ (show g≠G from fun e => hn (e ▸ h.mG)),hg3.block g (by omega) (fun e => hn (h.mE g e.symm)),hb2.block g hlt]
 have hz:w.heap.size≤(w3.setCell ⟨G,8,none⟩ v').heap.size:=by simp; omega
 have hM:∀ g,g < w.heap.size→(M g∨v'.ownBlock = some g)→M g:=fun g hlt e => by
  rcases e with e | e
  ·exact e
  ·rcases hnew with f | f
   ·exact h.mE g (f ▸ e)
   ·rw [f] at e; have:=Option.some.inj e; omega
 have hs:∀ {k n:Nat} {u:Value} {xs:List Value},SlR M w k u n xs→SlR (fun g => M g∨v'.ownBlock = some g) (w3.setCell ⟨G,8,none⟩ v') k u n xs:=fun hu => (hu.set hM).keep hz fun g hlt hn => hk g hlt (fun e => hn (.inl e))
 exact {
  box:=box3.set_ 8 v'
  num:=n3.setCell (fun e => hne e) v'
  oR:=own_setCell oR3 (own_blk oR3 box3 (by decide)) _
  oN:=own_setCell oN3 (own_blk oN3 box3 (by decide)) _
  oO:=own_setCell oO3 (own_blk oO3 box3 (by decide)) _
  oE:=by rw [List.length_append,List.map_append]; exact own_setCell ho (own_blk ho box3 (by decide)) _
  oT:=own_setCell oT3 (own_blk oT3 box3 (by decide)) _
  tips:=fun i hi => hs (h.tips i hi)
  nexts:=fun i hi => hs (h.nexts i hi)
  outss:=fun i hi => hs (h.outss i hi)
  le:=h.le
  sz:=Nat.le_trans h.sz hz
  gG:=h.gG
  gM:=h.gM
  low:=fun g hg => .inl (h.low g hg)
  mG:=.inl h.mG
  mM:=.inl h.mM
  mR:=fun g e => .inl (h.mR g e)
  mN:=fun g e => .inl (h.mN g e)
  mO:=fun g e => .inl (h.mO g e)
  mE:=fun g e => .inr e
  mT:=fun g e => .inl (h.mT g e) }
theorem MkV.putT (h:MkV w B0 P0 G MB vA vE most fr vR vN vO vEn vT tv nv ov S M) {w2:World} (hb2:Below w.heap.size w w2) {w3:World} {v':Value} {x:ByteArray}  (hg3:w2.grownBy w3 vT.ownBlock) (ho:w3.ownsRow P0 9 1 v' (S.tails.length + 1) (S.tails.map Value.string ++ [.string x])) (hnew:v'.ownBlock = vT.ownBlock∨v'.ownBlock = some w2.heap.size) :
    MkV (w3.setCell ⟨G,9,none⟩ v') B0 P0 G MB vA vE most fr vR vN vO vEn v' tv nv ov { S with tails:=S.tails ++ [x] } (fun g => M g∨v'.ownBlock = some g):=by
 have box2:=h.box.below hb2 h.box.lt
 have z2:=hb2.size
 have z3:=hg3.size
 have oR2:=own_below h.oR hb2
 have oN2:=own_below h.oN hb2
 have oO2:=own_below h.oO hb2
 have oE2:=own_below h.oE hb2
 have oT2:=own_below h.oT hb2
 have box3:=blk_keep box2 hg3 (own_blk oT2 box2 (by decide))
 have oR3:=oR2.kept hg3 (apart_types oR2 oT2 (by decide)).or_none
 have oN3:=oN2.kept hg3 (apart_types oN2 oT2 (by decide)).or_none
 have oO3:=oO2.kept hg3 (apart_types oO2 oT2 (by decide)).or_none
 have oE3:=oE2.kept hg3 (apart_types oE2 oT2 (by decide)).or_none
 have n3:=num_grown (h.num.below hb2 (Nat.le_refl _)) oT2 hg3
 have hne:G≠MB:=num_block h.num h.box
 have hk:∀ g,g < w.heap.size→¬ M g→(w3.setCell ⟨G,9,none⟩ v').heap[g]? = w.heap[g]?:=fun g hlt hn => by
  rw [Below.heap_setCell _ _ _ _ (show g≠G from fun e => hn (e ▸ h.mG)),hg3.block g (by omega) (fun e => hn (h.mT g e.symm)),hb2.block g hlt]
 have hz:w.heap.size≤(w3.setCell ⟨G,9,none⟩ v').heap.size:=by simp; omega
 have hM:∀ g,g < w.heap.size→(M g∨v'.ownBlock = some g)→M g:=fun g hlt e => by
  rcases e with e | e
  ·exact e
  ·rcases hnew with f | f
   ·exact h.mT g (f ▸ e)
   ·rw [f] at e; have:=Option.some.inj e; omega
 have hs:∀ {k n:Nat} {u:Value} {xs:List Value},SlR M w k u n xs→SlR (fun g => M g∨v'.ownBlock = some g) (w3.setCell ⟨G,9,none⟩ v') k u n xs:=fun hu => (hu.set hM).keep hz fun g hlt hn => hk g hlt (fun e => hn (.inl e))
 exact {
  box:=box3.set_ 9 v'
  num:=n3.setCell (fun e => hne e) v'
  oR:=own_setCell oR3 (own_blk oR3 box3 (by decide)) _
  oN:=own_setCell oN3 (own_blk oN3 box3 (by decide)) _
  oO:=own_setCell oO3 (own_blk oO3 box3 (by decide)) _
  oE:=own_setCell oE3 (own_blk oE3 box3 (by decide)) _
  oT:=by rw [List.length_append,List.map_append]; exact own_setCell ho (own_blk ho box3 (by decide)) _
  tips:=fun i hi => hs (h.tips i hi)
  nexts:=fun i hi => hs (h.nexts i hi)
  outss:=fun i hi => hs (h.outss i hi)
  le:=h.le
  sz:=Nat.le_trans h.sz hz
  gG:=h.gG
  gM:=h.gM
  low:=fun g hg => .inl (h.low g hg)
  mG:=.inl h.mG
  mM:=.inl h.mM
  mR:=fun g e => .inl (h.mR g e)
  mN:=fun g e => .inl (h.mN g e)
  mO:=fun g e => .inl (h.mO g e)
  mE:=fun g e => .inl (h.mE g e)
  mT:=fun g e => .inr e }
end
end Go.Proofs.YtcondkihpmmnnaaGreatDoor
namespace Go.Proofs.YtcondkihpmmnnaaGreatDoor
open Go.RowKit Go.Sort
def putK (ks:List (List UInt8)) (x:List UInt8):List (List UInt8):=if x∈ks then ks else ks ++ [x]
theorem putK_len (ks:List (List UInt8)) (x:List UInt8):(putK ks x).length≤ks.length + 1:=by
 unfold putK; split
 ·omega
 ·simp
def NumPost (b:Nat) (ks:List (List UInt8)) (k:List UInt8) (w:World) (e:Ending) (w':World):Prop :=
 ∃ i:Nat,e = .returned (.int .i64 (i:Int))∧w.grownBy w' (some b)∧Num w' b (putK ks k)∧(putK ks k)[i]? = some k
set_option maxRecDepth 100000 in
set_option maxHeartbeats 4000000 in
theorem of_num (gx b:Nat) (ks:List (List UInt8)) (k:List UInt8) (w:World) (hx:w.cell? ⟨gx,0,none⟩ = some (.map (some b))) (h:Num w b ks) (hk:k.length≤maxLen) (hl:ks.length≤1000000) :
    Calls Tryz.prog 72 #[.pointer (some ⟨gx,0,none⟩),.string ⟨k.toArray⟩] w (NumPost b ks k w):=by
 obtain ⟨nn,D,hown,hnl,htd,hism,hsz,hnd,hks⟩:=h
 have hkl:keyOf Tryz.prog 9 (.string ⟨k.toArray⟩) = some (.string k):=by
  rw [Go.WideMaps.keyOf_string_mk Tryz.underlying9 (show (ByteArray.mk k.toArray).size≤maxLen from by show k.toArray.size≤_; rw [List.size_toArray]; exact hk)]
 have hK:=strK.key hkl
 by_cases hmem:k∈ks
 ·obtain ⟨i,hi,hik⟩:=List.getElem_of_mem hmem
  have hi':ks[i]? = some k:=by rw [List.getElem?_eq_getElem hi,hik]
  have hh:=(hks k).1.2 hmem
  have hat0:=(hks k).2 i hi'
  have HPost:=Lib.hid (show NumPost b ks k w (.returned (.int .i64 (i:Int))) w from ⟨i,rfl,⟨rfl,rfl,rfl,Nat.le_refl _,fun _ _ _ => rfl⟩,by unfold putK; rw [if_pos hmem]; exact ⟨nn,D,hown,hnl,htd,hism,hsz,hnd,hks⟩,by unfold putK; rw [if_pos hmem]; exact hi'⟩)
  clear hmem hik hi hi' hks
  go_enter Tryz.func72,Tryz.ntmps72
  go_wp2_with (at_lookup; refine wpList_lookup_own_ok_int _ rfl _ _ 76 rfl 9 3 .i64 strK Tryz.underlying76 Tryz.underlying3 (zero_int _) b nn D rfl hown _ _ rfl hkl ?_; intro cc hat hwc)
  rw [hat0] at hat
  injection hat with hat
  injection hat with _ hat
  subst hat
  exact bodyPost_ret (v:=.int .i64 (i:Int)) (by simp [results,Tryz.results72,go_sem]) rfl HPost.out
 ·have hh:Maps.has D (.string k) = false:=by
    rw [← Bool.not_eq_true]; exact fun e => hmem ((hks k).1.1 e)
  have hnn:nn < maxLen:=by unfold maxLen; omega
  have hwf:(Lit.int .i64 (ks.length:Int)).wf = true:=WalkArith.wf_i64 (by omega)
  have HP:=Lib.hid (fun (W:World) (hg:w.grownBy W (some b)) (ho:W.ownsMap Tryz.prog 9 (plainElem Tryz.prog 3) b (nn + 1) (D.put (.string k) (.lit (.int .i64 (ks.length:Int))))) => show NumPost b ks k w (.returned (.int .i64 (ks.length:Int))) W from
   ⟨ks.length,rfl,hg,by
    unfold putK; rw [if_neg hmem]
    exact num_put hnl htd hism hsz hnd hks k hmem hh hK ho,by unfold putK; rw [if_neg hmem]; simp⟩)
  clear hmem hks hnd
  generalize hkl2:ks.length = kl at *
  go_enter Tryz.func72,Tryz.ntmps72
  go_wp2_with (first | (at_lookup; refine wpList_lookup_own_ok_int _ rfl _ _ 76 rfl 9 3 .i64 strK Tryz.underlying76 Tryz.underlying3 (zero_int _) b nn D rfl hown _ _ rfl hkl ?_; intro cc hat hwc) | (at_len; refine wpList_len_own _ rfl _ 76 rfl 9 3 Tryz.underlying76 _ b nn D rfl hown ?_; rw [hsz]) | (at_mapUpdate; refine wpList_mapUpdate_own _ rfl _ _ _ 76 rfl 9 3 strK Tryz.underlying76 _ b nn D rfl hown hnn _ _ (.string k) rfl rfl hkl _ [] (plainElem_int Tryz.underlying3 hwf) ?_; intro w2 hown2 hgr2))
  have HQ:=HP.out w2 hgr2 hown2
  exact bodyPost_ret (v:=.int .i64 (kl:Int)) (by simp [results,Tryz.results72,go_sem]) rfl HQ
end Go.Proofs.YtcondkihpmmnnaaGreatDoor
