/- Lemmas, part 20 of 39. No condition. -/
import Derived.Test.YtcondkihpmmnnaaGreatDoorUniqueP17
import Derived.Test.YtcondkihpmmnnaaGreatDoorUniqueP18
import Derived.Test.YtcondkihpmmnnaaGreatDoorUniqueP19
import Derived.Test.YtcondkihpmmnnaaGreatDoorUniqueP11
import Derived.Test.YtcondkihpmmnnaaGreatDoorUniqueP12
namespace Go.Proofs.YtcondkihpmmnnaaGreatDoor
open Go.RowKit Go.Sort
theorem flatMap_next {α β:Type} (l:List α) (d:α) (f:α→List β) (j:Nat) (hj:j < l.length):(l.take (j + 1)).flatMap f = (l.take j).flatMap f ++ f (l.getD j d):=by
 rw [take_next l d j hj,List.flatMap_append,List.flatMap_singleton]
theorem map_next {α β:Type} (l:List α) (d:α) (f:α→β) (j:Nat) (hj:j < l.length):(l.take (j + 1)).map f = (l.take j).map f ++ [f (l.getD j d)]:=by
 rw [take_next l d j hj,List.map_append,List.map_singleton]
theorem getD_in {α:Type} (l:List α) (d:α) (j:Nat) (hj:j < l.length):l.getD j d∈l:=by
 rw [List.getD_eq_getElem?_getD,List.getElem?_eq_getElem hj]
 exact List.getElem_mem _
def stX (b:Fs) (q r v:Tp):Tp:=⟨q.st * b.n + v.st,r.out ++ v.out⟩
def stT (b:Fs) (q r:Tp):List (Option Tp):=match waysF b.arcs r.st (bl q.out) with
 | none => [none]
 | some l => (sortT l).map fun v => some (stX b q r v)
def startsL (a b:Fs):List (Option Tp):=a.starts.flatMap fun q => b.starts.flatMap fun r => stT b q r
def endS (l:List Tp) (k s:Nat):List Tp:=(l.take k).filter fun z => decide (z.st = (s:Int))
def enX (b:Fs) (p:Tp) (y:Int) (v z:Tp):Tp:=⟨p.st * b.n + y,v.out ++ z.out⟩
def enT (b:Fs) (p:Tp) (y:Nat):List (Option Tp):=match waysF b.arcs y (bl p.out) with
 | none => [none]
 | some l => (sortT l).flatMap fun v => (endS b.ends b.ends.length v.st.toNat).map fun z => some (enX b p y v z)
def endsL (a b:Fs) (n:Nat):List (Option Tp):=a.ends.flatMap fun p => (List.range n).flatMap fun y => enT b p y
def arX (b:Fs) (x:Ar) (y:Int) (v:Tp):Ar:=⟨x.fr * b.n + y,x.to * b.n + v.st,x.set,v.out,false⟩
def arY (b:Fs) (x:Ar) (y:Int) (v:Tp) (u:Ar):Ar:=⟨x.fr * b.n + y,x.to * b.n + u.to,x.set.both u.set,v.out ++ u.out,u.cp⟩
def arU (b:Fs) (x:Ar) (y:Int) (v:Tp) (u:Ar):List (Option Ar):=if x.set.both u.set = St.none then [] else [some (arY b x y v u)]
def arV (b:Fs) (x:Ar) (y:Int) (v:Tp):List (Option Ar):=if x.cp = true then (leavS b.arcs b.arcs.length v.st.toNat).flatMap (arU b x y v) else [some (arX b x y v)]
def arT (b:Fs) (x:Ar) (y:Nat):List (Option Ar):=match waysF b.arcs y (bl x.out) with
 | none => [none]
 | some l => (sortT l).flatMap (arV b x y)
def arcsL (a b:Fs) (n:Nat):List (Option Ar):=a.arcs.flatMap fun x => (List.range n).flatMap fun y => arT b x y
theorem tipF_false {x:Tp} {S:List Tp} {ov:Bool} (h:(tipF x S ov).2 = false):ov = false:=by
 rcases ov with _ | _
 ·rfl
 ·rw [tipF_over] at h; cases h
theorem arcF_false {x:Ar} {S:List Ar} {ov:Bool} (h:(arcF x S ov).2 = false):ov = false:=by
 rcases ov with _ | _
 ·rfl
 ·rw [arcF_over] at h; cases h
structure ChE (c:Ch) (a b:Fs):Prop where
 an:c.an = a.n
 bn:c.bn = b.n
 n:b.n = (c.n:Int)
 hn:c.n≤1024
 a0:0≤a.n
 mul:a.n * b.n≤1024
 aS:∃ A k,c.aS = .slice A a.starts.length k∧ReadsP c.P c.w 2 A a.starts.length (encs encT a.starts)
 aE:∃ A k,c.aE = .slice A a.ends.length k∧ReadsP c.P c.w 2 A a.ends.length (encs encT a.ends)
 aA:∃ A k,c.aA = .slice A a.arcs.length k∧ReadsP c.P c.w 8 A a.arcs.length (encs encA a.arcs)
 bS:∃ A k,c.bS = .slice A b.starts.length k∧ReadsP c.P c.w 2 A b.starts.length (encs encT b.starts)
 hs:a.starts.length≤1024∧∀ x∈a.starts,0≤x.st∧x.st < a.n∧x.out.size≤1024
 he:a.ends.length≤1024∧∀ x∈a.ends,0≤x.st∧x.st < a.n∧x.out.size≤1024
 ha:a.arcs.length≤16384∧∀ x∈a.arcs,0≤x.fr∧x.fr < a.n∧0≤x.to∧x.to < a.n∧x.out.size≤1024∧StW x.set∧x.set≠St.none
 ks:b.starts.length≤1024∧∀ x∈b.starts,0≤x.st∧x.st < b.n∧x.out.size≤1024
 ke:b.ends.length≤1024∧∀ x∈b.ends,0≤x.st∧x.st < b.n∧x.out.size≤1024
 ka:b.arcs.length≤16384∧∀ x∈b.arcs,ArW x∧0≤x.to∧x.to < (c.n:Int)∧x.out.size≤1024
 arcs:GrpP c.P encA 8 c.w c.L c.n (leavS b.arcs b.arcs.length)
 ends:GrpP c.P encT 2 c.w c.E c.n (endS b.ends b.ends.length)
def ChWaysG (c:Ch) (b:Fs) (y:Int) (t:ByteArray) (wr:World) (vS vE vA:Value) (S E:List Tp) (A:List Ar) (e:Ending) (w':World):Prop :=
 ∃ Aw cw l ov',e = .returned (.slice Aw l.length cw)∧l.length≤4096∧(∀ v,Stays c wr v w' v)∧ReadsP (fun k => wr.heap.size≤k∧k < w'.heap.size) w' 2 Aw l.length (encs encT l)∧ChW c w' vS vE vA S E A ov' ∧
  (ov' = false→∃ l0,waysF b.arcs y (bl t) = some l0∧l = sortT l0)∧∀ p∈l,0≤p.st∧p.st < (c.n:Int)∧p.out.size≤1049600
theorem chWaysG_any {c:Ch} {a b:Fs} (HE:ChE c a b) (wr:World) (vS vE vA:Value) (S E:List Tp) (A:List Ar) (HW:ChW c wr vS vE vA S E A false) (y:Nat) (t:ByteArray) (hy:y < c.n) (ht:t.size≤1024) :
    Calls Tryz.prog 54 #[.pointer (some ⟨c.G,0,none⟩),.int .i64 (y:Int),.string t] wr (ChWaysG c b y t wr vS vE vA S E A):=by
 refine (chWays_any c b wr vS vE vA S E A false HW HE.arcs y t HE.hn hy ht HE.ka.2 HE.ka.1).mono ?_
 rintro e w' ⟨Aw,kw,cw,rfl,hk,hst,hm⟩
 rcases hw:waysF b.arcs y (bl t) with _ | l
 ·rw [hw] at hm
  obtain ⟨rfl,h2⟩:=hm
  exact ⟨Aw,cw,[],true,rfl,hk,hst,⟨rfl,fun h => absurd h (Nat.lt_irrefl 0)⟩,h2,(fun h => by cases h),fun p hp => (List.not_mem_nil hp).elim⟩
 ·rw [hw] at hm
  obtain ⟨rfl,h2,h3⟩:=hm
  have hl:=sortT_len l
  refine ⟨Aw,cw,sortT l,false,by rw [hl],by rw [hl]; exact hk,hst,by rw [hl]; exact h2,h3,fun _ => ⟨l,hw,rfl⟩,fun p hp => ?_⟩
  obtain ⟨h1,h2,h3⟩:=(waysF_few (fun x hx => (HE.ka.2 x hx).2) hy (bl t).length (bl t) l rfl hw).2 p ((sortT_mem p l).1 hp)
  refine ⟨h1,h2,?_⟩
  have:=Nat.mul_le_mul_right 1025 (show (bl t).length≤1024 from ht)
  omega
theorem at_gives (G:Nat) (bn x y:Int) (w:World) (hb:w.cell? ⟨G,4,none⟩ = some (.int .i64 bn)) (h1:0≤x) (h2:0≤bn) (h3:x * bn≤2000000) (h4:0≤y) (h5:y≤2000000) :
    Calls Tryz.prog 56 #[.pointer (some ⟨G,0,none⟩),.int .i64 x,.int .i64 y] w (Gives (.int .i64 (x * bn + y)) w) :=
 (at_any G bn x y w hb h1 h2 h3 h4 h5).mono fun _ _ ⟨he,hw⟩ => ⟨he,by rw [← hw]; exact Below.refl _ _⟩
theorem pair_lt {p n y m:Int} (h0:0≤p) (h1:p < n) (h2:0≤y) (h3:y < m):0≤p * m + y∧p * m + y < n * m∧p * m≤n * m:=by
 have h4:0≤p * m:=Int.mul_nonneg h0 (by omega)
 have h5:(p + 1) * m≤n * m:=Int.mul_le_mul_of_nonneg_right (by omega) (by omega)
 rw [Int.add_mul,Int.one_mul] at h5
 omega
end Go.Proofs.YtcondkihpmmnnaaGreatDoor
namespace Go.Proofs.YtcondkihpmmnnaaGreatDoor
section
variable {a b:Fs} {n:Nat}
theorem endS_mem (l:List Tp) (s:Nat) (z:Tp):z∈endS l l.length s↔z∈l∧z.st = (s:Int):=by
 unfold endS
 rw [List.take_length,List.mem_filter,decide_eq_true_iff]
theorem leavS_mem (l:List Ar) (s:Nat) (z:Ar):z∈leavS l l.length s↔z∈l∧z.fr = (s:Int):=by
 unfold leavS
 rw [List.take_length,List.mem_filter,decide_eq_true_iff]
theorem startsL_mem (h:none ∉ startsL a b) (x:Tp):some x∈startsL a b↔∃ q∈a.starts,∃ r∈b.starts,∃ v o,Way b.arcs r.st q.out.data.toList o v∧x.st = q.st * b.n + v∧x.out.data.toList = r.out.data.toList ++ o:=by
 have hw:∀ q∈a.starts,∀ r∈b.starts,∃ l,waysF b.arcs r.st (bl q.out) = some l:=fun q hq r hr => by
  rcases h1:waysF b.arcs r.st (bl q.out) with _ | l
  ·refine absurd ?_ h
   unfold startsL
   rw [List.mem_flatMap]
   refine ⟨q,hq,List.mem_flatMap.2 ⟨r,hr,?_⟩⟩
   unfold stT
   rw [h1]
   exact List.mem_singleton.2 rfl
  ·exact ⟨l,rfl⟩
 unfold startsL
 rw [List.mem_flatMap]
 constructor
 ·rintro ⟨q,hq,h2⟩
  obtain ⟨r,hr,h3⟩:=List.mem_flatMap.1 h2
  obtain ⟨l,hl⟩:=hw q hq r hr
  unfold stT at h3
  rw [hl] at h3
  obtain ⟨v,hv,e⟩:=List.mem_map.1 h3
  have e:=Option.some.inj e
  subst e
  exact ⟨q,hq,r,hr,v.st,bl v.out,(ways_mem b.arcs r.st _ _ l rfl hl v).1 ((sortT_mem v l).1 hv),rfl,bl_app _ _⟩
 ·rintro ⟨q,hq,r,hr,v,o,hW,e1,e2⟩
  obtain ⟨l,hl⟩:=hw q hq r hr
  refine ⟨q,hq,List.mem_flatMap.2 ⟨r,hr,?_⟩⟩
  unfold stT
  rw [hl]
  refine List.mem_map.2 ⟨⟨v,⟨o.toArray⟩⟩,(sortT_mem _ l).2 ((ways_mem b.arcs r.st _ _ l rfl hl _).2 (by simpa [bl] using hW)),?_⟩
  obtain ⟨xs,xo⟩:=x
  simp only at e1 e2
  unfold stX
  rw [e1]
  congr 2
  refine bl_inj ?_
  rw [bl_app]
  show bl r.out ++ (⟨o.toArray⟩:ByteArray).data.toList = xo.data.toList
  rw [e2]
theorem endsL_mem (rb:Right b) (hn:b.n = (n:Int)) (h:none ∉ endsL a b n) (x:Tp):some x∈endsL a b n↔∃ p∈a.ends,∃ y,stOk b.n y∧∃ v o,Way b.arcs y p.out.data.toList o v∧∃ z∈b.ends,z.st = v∧x.st = p.st * b.n + y∧x.out.data.toList = o ++ z.out.data.toList:=by
 have hw:∀ p∈a.ends,∀ y:Nat,y < n→∃ l,waysF b.arcs y (bl p.out) = some l:=fun p hp y hy => by
  rcases h1:waysF b.arcs y (bl p.out) with _ | l
  ·refine absurd ?_ h
   unfold endsL
   rw [List.mem_flatMap]
   refine ⟨p,hp,List.mem_flatMap.2 ⟨y,List.mem_range.2 hy,?_⟩⟩
   unfold enT
   rw [h1]
   exact List.mem_singleton.2 rfl
  ·exact ⟨l,rfl⟩
 unfold endsL
 rw [List.mem_flatMap]
 constructor
 ·rintro ⟨p,hp,h2⟩
  obtain ⟨y,hy,h3⟩:=List.mem_flatMap.1 h2
  have hy:=List.mem_range.1 hy
  obtain ⟨l,hl⟩:=hw p hp y hy
  have hyo:stOk b.n (y:Int):=⟨by omega,by rw [hn]; omega⟩
  unfold enT at h3
  rw [hl] at h3
  obtain ⟨v,hv,h4⟩:=List.mem_flatMap.1 h3
  obtain ⟨z,hz,e⟩:=List.mem_map.1 h4
  have e:=Option.some.inj e
  subst e
  have hW:=(ways_mem b.arcs y _ _ l rfl hl v).1 ((sortT_mem v l).1 hv)
  have hvo:=hW.ok rb hyo
  obtain ⟨z1,z2⟩:=(endS_mem _ _ _).1 hz
  rw [Int.toNat_of_nonneg hvo.1] at z2
  exact ⟨p,hp,y,hyo,v.st,bl v.out,hW,z,z1,z2,rfl,bl_app _ _⟩
 ·rintro ⟨p,hp,y,hyo,v,o,hW,z,hz,hzv,e1,e2⟩
  have hy0:=hyo.1
  obtain ⟨y,rfl⟩:∃ y':Nat,y = (y':Int):=⟨_,(Int.toNat_of_nonneg hy0).symm⟩
  have hy:y < n:=by have:=hyo.2; omega
  obtain ⟨l,hl⟩:=hw p hp y hy
  have hvo:=hW.ok rb hyo
  refine ⟨p,hp,List.mem_flatMap.2 ⟨y,List.mem_range.2 hy,?_⟩⟩
  unfold enT
  rw [hl]
  refine List.mem_flatMap.2 ⟨⟨v,⟨o.toArray⟩⟩,(sortT_mem _ l).2 ((ways_mem b.arcs y _ _ l rfl hl _).2 (by simpa [bl] using hW)),List.mem_map.2 ⟨z,(endS_mem _ _ _).2 ⟨hz,by rw [Int.toNat_of_nonneg hvo.1]; exact hzv⟩,?_⟩⟩
  obtain ⟨xs,xo⟩:=x
  simp only at e1 e2
  unfold enX
  rw [e1]
  congr 2
  refine bl_inj ?_
  rw [bl_app]
  show (⟨o.toArray⟩:ByteArray).data.toList ++ bl z.out = xo.data.toList
  rw [e2]
theorem arcsL_mem (rb:Right b) (hn:b.n = (n:Int)) (h:none ∉ arcsL a b n) (e:Ar):some e∈arcsL a b n↔∃ x∈a.arcs,∃ y,stOk b.n y∧∃ v o,Way b.arcs y x.out.data.toList o v∧e.fr = x.fr * b.n + y ∧
    ((x.cp = false∧e.to = x.to * b.n + v∧e.set = x.set∧e.out.data.toList = o∧e.cp = false) ∨
     (x.cp = true∧∃ u∈b.arcs,u.fr = v∧x.set.both u.set≠St.none∧e.to = x.to * b.n + u.to∧e.set = x.set.both u.set∧e.out.data.toList = o ++ u.out.data.toList∧e.cp = u.cp)):=by
 have hw:∀ x∈a.arcs,∀ y:Nat,y < n→∃ l,waysF b.arcs y (bl x.out) = some l:=fun x hx y hy => by
  rcases h1:waysF b.arcs y (bl x.out) with _ | l
  ·refine absurd ?_ h
   unfold arcsL
   rw [List.mem_flatMap]
   refine ⟨x,hx,List.mem_flatMap.2 ⟨y,List.mem_range.2 hy,?_⟩⟩
   unfold arT
   rw [h1]
   exact List.mem_singleton.2 rfl
  ·exact ⟨l,rfl⟩
 unfold arcsL
 rw [List.mem_flatMap]
 constructor
 ·rintro ⟨x,hx,h2⟩
  obtain ⟨y,hy,h3⟩:=List.mem_flatMap.1 h2
  have hy:=List.mem_range.1 hy
  obtain ⟨l,hl⟩:=hw x hx y hy
  have hyo:stOk b.n (y:Int):=⟨by omega,by rw [hn]; omega⟩
  unfold arT at h3
  rw [hl] at h3
  obtain ⟨v,hv,h4⟩:=List.mem_flatMap.1 h3
  have hW:=(ways_mem b.arcs y _ _ l rfl hl v).1 ((sortT_mem v l).1 hv)
  have hvo:=hW.ok rb hyo
  unfold arV at h4
  split at h4
  ·rename_i hcp
   obtain ⟨u,hu,h5⟩:=List.mem_flatMap.1 h4
   obtain ⟨u1,u2⟩:=(leavS_mem _ _ _).1 hu
   rw [Int.toNat_of_nonneg hvo.1] at u2
   unfold arU at h5
   split at h5
   ·cases h5
   ·rename_i hne
    have e5:=Option.some.inj (List.mem_singleton.1 h5)
    subst e5
    exact ⟨x,hx,y,hyo,v.st,bl v.out,hW,rfl,.inr ⟨hcp,u,u1,u2,hne,rfl,rfl,bl_app _ _,rfl⟩⟩
  ·rename_i hcp
   have e5:=Option.some.inj (List.mem_singleton.1 h4)
   subst e5
   exact ⟨x,hx,y,hyo,v.st,bl v.out,hW,rfl,.inl ⟨by simpa using hcp,rfl,rfl,rfl,rfl⟩⟩
 ·rintro ⟨x,hx,y,hyo,v,o,hW,e1,hc⟩
  have hy0:=hyo.1
  obtain ⟨y,rfl⟩:∃ y':Nat,y = (y':Int):=⟨_,(Int.toNat_of_nonneg hy0).symm⟩
  have hy:y < n:=by have:=hyo.2; omega
  obtain ⟨l,hl⟩:=hw x hx y hy
  have hvo:=hW.ok rb hyo
  refine ⟨x,hx,List.mem_flatMap.2 ⟨y,List.mem_range.2 hy,?_⟩⟩
  unfold arT
  rw [hl]
  refine List.mem_flatMap.2 ⟨⟨v,⟨o.toArray⟩⟩,(sortT_mem _ l).2 ((ways_mem b.arcs y _ _ l rfl hl _).2 (by simpa [bl] using hW)),?_⟩
  obtain ⟨ef,et,es,eo,ec⟩:=e
  simp only at e1 hc
  unfold arV
  rcases hc with ⟨c1,c2,c3,c4,c5⟩ | ⟨c1,u,hu,huf,hne,c2,c3,c4,c5⟩
  ·rw [if_neg (by rw [c1]; decide),List.mem_singleton]
   unfold arX
   rw [e1,c2,c3,c5]
   congr 2
   refine bl_inj ?_
   show eo.data.toList = (⟨o.toArray⟩:ByteArray).data.toList
   rw [c4]
  ·rw [if_pos c1]
   refine List.mem_flatMap.2 ⟨u,(leavS_mem _ _ _).2 ⟨hu,by rw [Int.toNat_of_nonneg hvo.1]; exact huf⟩,?_⟩
   unfold arU
   rw [if_neg hne,List.mem_singleton]
   unfold arY
   rw [e1,c2,c3,c5]
   congr 2
   refine bl_inj ?_
   rw [bl_app]
   show eo.data.toList = (⟨o.toArray⟩:ByteArray).data.toList ++ bl u.out
   rw [c4]
theorem chain_of {S E:List Tp} {A:List Ar} {N:Int} (rb:Right b) (hn:b.n = (n:Int)) (hS:Puts S false (startsL a b)) (hE:Puts E false (endsL a b n)) (hA:Puts A false (arcsL a b n)):Chain a b (sortF ⟨N,S,E,A⟩):=by
 obtain ⟨s1,s2⟩:=hS rfl
 obtain ⟨e1,e2⟩:=hE rfl
 obtain ⟨a1,a2⟩:=hA rfl
 refine ⟨fun x => ?_,fun x => ?_,fun e => ?_⟩
 ·rw [← startsL_mem s1 x,← s2 x]
  exact ordT_mem x S
 ·rw [← endsL_mem rb hn e1 x,← e2 x]
  exact ordT_mem x E
 ·rw [← arcsL_mem rb hn a1 e,← a2 e]
  exact ordA_mem e A
end
end Go.Proofs.YtcondkihpmmnnaaGreatDoor
namespace Go.Proofs.YtcondkihpmmnnaaGreatDoor
inductive RT (succ:Nat→List Int):Nat→Nat→Prop
 | refl (s:Nat):RT succ s s
 | step {s y z:Nat} (h:RT succ s y) (hz:(z:Int)∈succ y):RT succ s z
theorem RT.trans {succ:Nat→List Int} {s y z:Nat} (h:RT succ s y) (k:RT succ y z):RT succ s z:=by
 induction k with
 | refl => exact h
 | step _ hz ih => exact .step ih hz
theorem RT.head {succ:Nat→List Int} {s y z:Nat} (h:(y:Int)∈succ s) (k:RT succ y z):RT succ s z:=(RT.step (.refl s) h).trans k
def unseen (b:List Bool):Nat:=(b.filter fun x => !x).length
theorem unseen_le:∀ (b b':List Bool),b.length = b'.length→(∀ x,b.getD x false = true→b'.getD x false = true)→unseen b'≤unseen b
 | [],[],_,_ => Nat.le_refl _
 | [],_ :: _,h,_ => by cases h
 | _ :: _,[],h,_ => by cases h
 | x :: b,x' :: b',h,hm => by
  have ih:=unseen_le b b' (by simpa using h) (fun y hy => hm (y + 1) hy)
  have h0:=hm 0
  unfold unseen at *
  rcases x with _ | _ <;> rcases x' with _ | _
  ·simpa using ih
  ·simp; omega
  ·have:=h0 rfl; cases this
  ·simpa using ih
theorem unseen_set:∀ (b:List Bool) (s:Nat),s < b.length→b.getD s false = false→unseen (b.set s true) + 1 = unseen b
 | [],s,h,_ => by cases h
 | x :: b,0,_,h => by
  have h:x = false:=h
  subst h
  unfold unseen; simp
 | x :: b,s + 1,h,h2 => by
  have ih:=unseen_set b s (by simpa using h) h2
  unfold unseen at *
  rcases x with _ | _
  ·simp only [List.set_cons_succ,List.filter_cons,Bool.not_false,if_true,List.length_cons]; omega
  ·simpa using ih
theorem getD_setB (b:List Bool) (s x:Nat) (hs:s < b.length):(b.set s true).getD x false = (decide (x = s) || b.getD x false):=by
 rw [List.getD_eq_getElem?_getD,List.getD_eq_getElem?_getD]
 by_cases h:x = s
 ·subst h; rw [List.getElem?_set_self hs]; simp
 ·rw [List.getElem?_set_ne (fun e => h e.symm)]; simp [h]
structure Vis (succ:Nat→List Int) (b:List Bool) (from_:Nat→Prop) (b':List Bool):Prop where
 len:b'.length = b.length
 more:∀ x,b.getD x false = true→b'.getD x false = true
 new:∀ x,b'.getD x false = true→b.getD x false = true∨∃ s,from_ s∧RT succ s x
 closed:∀ x,b'.getD x false = true→b.getD x false = true∨∀ z:Nat,(z:Int)∈succ x→b'.getD z false = true
theorem Vis.refl {succ:Nat→List Int} {b:List Bool} {f:Nat→Prop}:Vis succ b f b:=⟨rfl,fun _ h => h,fun _ h => .inl h,fun _ h => .inl h⟩
theorem Vis.trans {succ:Nat→List Int} {b b' b'':List Bool} {f g h:Nat→Prop} (v:Vis succ b f b') (u:Vis succ b' g b'') (hf:∀ s,f s→h s) (hg:∀ s,g s→h s):Vis succ b h b'':=by
 refine ⟨u.len.trans v.len,fun x hx => u.more x (v.more x hx),fun x hx => ?_,fun x hx => ?_⟩
 ·rcases u.new x hx with h1 | ⟨s,h1,h2⟩
  ·rcases v.new x h1 with h2 | ⟨s,h2,h3⟩
   ·exact .inl h2
   ·exact .inr ⟨s,hf s h2,h3⟩
  ·exact .inr ⟨s,hg s h1,h2⟩
 ·rcases u.closed x hx with h1 | h1
  ·rcases v.closed x h1 with h2 | h2
   ·exact .inl h2
   ·exact .inr fun z hz => u.more z (h2 z hz)
  ·exact .inr h1
end Go.Proofs.YtcondkihpmmnnaaGreatDoor
namespace Go.Proofs.YtcondkihpmmnnaaGreatDoor
open Go.RowKit Go.Sort
def encI (z:Int):List Value:=[.int .i64 z]
theorem encI_len (z:Int):(encI z).length = 1:=rfl
theorem int_cell {w:World} {B n:Nat} {A:Option Addr} {l:List Int} (HR:Reads w B 1 A n (encs encI l)) (j:Nat) (hj:j < n) :
    ∃ g o,A = some ⟨g,o,none⟩∧g < B∧w.cell? ⟨g,o + j,none⟩ = some (.int .i64 (l.getD j 0)):=by
 obtain ⟨g,o,e,hg,hc⟩:=enc_cell encI_len (by decide) HR 0 j hj
 have:=hc 0 _ rfl
 rw [Nat.mul_one,Nat.add_zero] at this
 exact ⟨g,o,e,hg,this⟩
structure VisE (w:World) (g Bs Bt Bv L n:Nat) (succ:Nat→List Int):Prop where
 cs:w.cell? ⟨Bs,0,none⟩ = some (.slice (some ⟨g,0,none⟩) n n)
 ct:w.cell? ⟨Bt,0,none⟩ = some (.slice (some ⟨L,0,none⟩) n n)
 cv:w.cell? ⟨Bv,0,none⟩ = some (.func (.func 119) #[] #[.pointer (some ⟨Bs,0,none⟩),.pointer (some ⟨Bt,0,none⟩),.pointer (some ⟨Bv,0,none⟩)])
 ns:Bs≠g
 nt:Bt≠g
 nv:Bv≠g
 grp:GrpP (fun k => k≠g∧k < w.heap.size) encI 1 w L n succ
 ok:∀ s,s < n→(succ s).length≤20000∧∀ z∈succ s,0≤z∧z < (n:Int)
structure VisW (w wr:World) (g:Nat) (b:List Bool):Prop where
 box:Blk wr g 4 (b.map Value.bool).toArray
 os:wr.os = w.os
 tape:wr.tape = w.tape
 output:wr.output = w.output
 size:wr.heap.size = w.heap.size
 keep:∀ k,k≠g→wr.heap[k]? = w.heap[k]?
theorem VisW.cell {w wr:World} {g:Nat} {b:List Bool} (h:VisW w wr g b) (s:Nat) (hs:s < b.length):wr.cell? ⟨g,s,none⟩ = some (.bool (b.getD s false)):=by
 rw [h.box.cell]
 simp [hs]
theorem VisW.put {w wr:World} {g:Nat} {b:List Bool} (h:VisW w wr g b) (s:Nat):VisW w (wr.setCell ⟨g,s,none⟩ (.bool true)) g (b.set s true):=by
 refine ⟨?_,h.os,h.tape,h.output,by simpa using h.size,fun k hk => (Below.heap_setCell wr _ _ k hk).trans (h.keep k hk)⟩
 have:=h.box.set_ s (.bool true)
 have e:(b.map Value.bool).toArray.setIfInBounds s (.bool true) = ((b.set s true).map Value.bool).toArray:=by
  rw [List.setIfInBounds_toArray,List.map_set]
 rw [e] at this
 exact this
def VisPost (w:World) (g:Nat) (succ:Nat→List Int) (b:List Bool) (s:Nat) (e:Ending) (w':World):Prop :=
 e = .returned (.tuple #[])∧∃ b',VisW w w' g b'∧Vis succ b (· = s) b'∧b'.getD s false = true
set_option maxRecDepth 100000 in
set_option maxHeartbeats 4000000 in
theorem visit_any {w:World} {g Bs Bt Bv L n:Nat} {succ:Nat→List Int} (HE:VisE w g Bs Bt Bv L n succ) (_hn:n≤1024):∀ (m:Nat) (wr:World) (b:List Bool) (s:Nat),unseen b≤m→VisW w wr g b→b.length = n→s < n →
    Calls Tryz.prog 119 #[.int .i64 (s:Int),.pointer (some ⟨Bs,0,none⟩),.pointer (some ⟨Bt,0,none⟩),.pointer (some ⟨Bv,0,none⟩)] wr (VisPost w g succ b s):=by
 intro m
 induction m with
 | zero =>
  intro wr b s hm HW hb hs
  have hyes:b.getD s false = true:=by
   rcases h:b.getD s false with _ | _
   ·have:=unseen_set b s (by omega) h; omega
   ·rfl
  have HP:=Lib.hid (show VisPost w g succ b s (.returned (.tuple #[])) wr from ⟨rfl,b,HW,Vis.refl,hyes⟩)
  have c1:=(cell_kept (HW.keep Bs HE.ns)).trans HE.cs
  have c2:=HW.cell s (by omega)
  rw [hyes] at c2
  have hi1:(0:Int)≤(s:Int):=by omega
  have hi2:(s:Int) < (n:Int):=by omega
  clear hm hb hyes
  go_enter Tryz.func119,Tryz.ntmps119
  go_wp2
  go_end0
  exact HP.out
 | succ m ih =>
  intro wr b s hm HW hb hs
  have c1:=(cell_kept (HW.keep Bs HE.ns)).trans HE.cs
  have c2:=HW.cell s (by omega)
  have hi1:(0:Int)≤(s:Int):=by omega
  have hi2:(s:Int) < (n:Int):=by omega
  rcases hyes:b.getD s false with _ | _
  ·have hm2:=unseen_set b s (by omega) hyes
   have HW1:=HW.put s
   have f2:=HW.box.frozen s
   have hb1:(b.set s true).length = n:=by rw [List.length_set]; exact hb
   have c3:=(cell_kept (HW1.keep Bt HE.nt)).trans HE.ct
   obtain ⟨A,c,x0,x1,x2,x3⟩:=HE.grp.2 s hs
   have c4:=(cell_kept (a:=⟨L,s,none⟩) (HW1.keep L HE.grp.1.1)).trans x0
   have hokl:=(HE.ok s hs).1
   have Hmm:=Lib.hid hm2
   have Hm:=Lib.hid hm
   have Hb:=Lib.hid hb
   have Hb1:=Lib.hid hb1
   have hset:=Lib.hid (fun x => getD_setB b s x (by omega))
   rw [hyes] at c2
   generalize hb1e:b.set s true = b1 at *
   have Hyes:=Lib.hid hyes
   generalize hml:(succ s).length = ml at *
   have Hml:=Lib.hid hml
   clear hyes hm2 hm hb hb1 x0 hml hb1e
   go_enter Tryz.func119,Tryz.ntmps119
   go_wp2
   clear c1 c2 c3 c4 f2
   go_loopw [19] (fun i w2 => ∃ (k:Nat) (b2:List Bool),k≤ml∧i = .int .i64 ((k:Nat):Int)∧VisW w w2 g b2∧Vis succ b1 (fun z => (z:Int)∈succ s) b2∧(∀ j,j < k→∀ z:Nat,(succ s).getD j 0 = (z:Int)→b2.getD z false = true)) (fun i _ => ml - (intOf i).toNat)
   case atStart => exact ⟨0,b1,Nat.zero_le _,rfl,HW1,Vis.refl,fun j hj => absurd hj (Nat.not_lt_zero _)⟩
   case round =>
    clear HW1 HW
    obtain ⟨k,b2,hk,rfl,HW2,hv2,hj2⟩:=hrel
    have Hv2:=Lib.hid hv2
    have Hj2:=Lib.hid hj2
    clear hv2 hj2
    by_cases hlt:k < ml
    ·have hk1:(0:Int)≤(k:Int):=by omega
     have hk2:(k:Int) < (ml:Int):=by omega
     obtain ⟨gx,ox,rfl,hgx,d0⟩:=int_cell ((x3.kept fun q hq => HW2.keep q hq.1).reads (B:=w.heap.size) fun q hq => hq.2) k hlt
     have hzm:(succ s).getD k 0∈succ s:=getD_in _ _ _ (by have:=Hml.out; omega)
     obtain ⟨z1,z2⟩:=(HE.ok s hs).2 _ hzm
     obtain ⟨z,hz⟩:∃ z:Nat,(succ s).getD k 0 = (z:Int):=⟨_,(Int.toNat_of_nonneg z1).symm⟩
     have Hz:=Lib.hid hz
     rw [hz] at d0
     have cv:=(cell_kept (HW2.keep Bv HE.nv)).trans HE.cv
     have hl2:b2.length = n:=by have:=Hv2.out.len; have:=Hb1.out; omega
     have hC:=ih wr b2 z (by have:=unseen_le b1 b2 Hv2.out.len.symm Hv2.out.more; have:=Hmm.out; have:=Hm.out; omega) HW2 hl2 (by omega)
     have Hzm:Hid ((z:Int)∈succ s):=Lib.hid (by rw [← hz]; exact hzm)
     clear hz hzm z1 z2 hl2
     go_wp2_with fail
     refine hC.mono ?_
     rintro e w3 ⟨rfl,b3,HW3,hv3,hz3⟩
     have Hv3:=Lib.hid hv3
     have Hz3:=Lib.hid hz3
     clear hv3 hz3 hC d0 cv
     go_wp2
     go_roundw
     case rel =>
      refine ⟨k + 1,b3,by omega,by go_num,HW3,Hv2.out.trans Hv3.out (fun _ h => h) (fun x hx => by rw [hx]; exact Hzm.out),fun j hj y hy => ?_⟩
      by_cases hjk:j = k
      ·subst hjk
       have:(z:Int) = (y:Int):=by rw [← Hz.out,← hy]
       have:y = z:=by omega
       rw [this]
       exact Hz3.out
      ·exact Hv3.out.more y (Hj2.out j (by omega) y hy)
     case measure => simp [intOf]; omega
    ·obtain rfl:k = ml:=by omega
     have hfin:VisPost w g succ b s (.returned (.tuple #[])) wr:=by
      have hv:=Hv2.out
      have hs1:∀ x,b1.getD x false = true↔x = s∨b.getD x false = true:=fun x => by rw [hset.out x]; simp
      refine ⟨rfl,b2,HW2,⟨?_,fun x hx => ?_,fun x hx => ?_,fun x hx => ?_⟩,?_⟩
      ·have:=hv.len; have:=Hb1.out; have:=Hb.out; omega
      ·exact hv.more x ((hs1 x).2 (.inr hx))
      ·rcases hv.new x hx with h | ⟨y,hy,hr⟩
       ·rcases (hs1 x).1 h with rfl | h
        ·exact .inr ⟨x,rfl,.refl x⟩
        ·exact .inl h
       ·exact .inr ⟨s,rfl,RT.head hy hr⟩
      ·rcases hv.closed x hx with h | h
       ·rcases (hs1 x).1 h with rfl | h
        ·refine .inr fun z hz => ?_
         obtain ⟨j,hj,he⟩:=List.mem_iff_getElem.1 hz
         refine Hj2.out j (by have:=Hml.out; omega) z ?_
         rw [List.getD_eq_getElem?_getD,List.getElem?_eq_getElem hj]
         exact he
        ·exact .inl h
       ·exact .inr h
      ·exact hv.more s ((hs1 s).2 (.inl rfl))
     have Hfin:=Lib.hid hfin
     clear hfin
     go_wp2
     go_end0
     exact Hfin.out
  ·have HP:=Lib.hid (show VisPost w g succ b s (.returned (.tuple #[])) wr from ⟨rfl,b,HW,Vis.refl,hyes⟩)
   rw [hyes] at c2
   clear hm hb hyes ih
   go_enter Tryz.func119,Tryz.ntmps119
   go_wp2
   go_end0
   exact HP.out
end Go.Proofs.YtcondkihpmmnnaaGreatDoor
namespace Go.Proofs.YtcondkihpmmnnaaGreatDoor
open Go.RowKit Go.Sort
section
variable {w w':World} {g Bs Bt Bv L n:Nat} {succ:Nat→List Int}
theorem VisE.below (h:VisE w g Bs Bt Bv L n succ) (hb:Below w.heap.size w w'):VisE w' g Bs Bt Bv L n succ :=
 ⟨(hb.cell (block_lt_of_cell h.cs)).trans h.cs,(hb.cell (block_lt_of_cell h.ct)).trans h.ct,(hb.cell (block_lt_of_cell h.cv)).trans h.cv,h.ns,h.nt,h.nv,
  ⟨⟨h.grp.1.1,Nat.lt_of_lt_of_le h.grp.1.2 hb.size⟩,fun s hs => by
   obtain ⟨A,c,h1,h2,h3,h4⟩:=(h.grp.kept (w':=w') fun k hk => hb.block k hk.2).2 s hs
   exact ⟨A,c,h1,h2,h3,h4.mono fun k hk => ⟨hk.1,Nat.lt_of_lt_of_le hk.2 hb.size⟩⟩⟩,h.ok⟩
theorem VisE.vis {b:List Bool} (h:VisE w g Bs Bt Bv L n succ) (hv:VisW w w' g b):VisE w' g Bs Bt Bv L n succ :=
 ⟨(cell_kept (hv.keep Bs h.ns)).trans h.cs,(cell_kept (hv.keep Bt h.nt)).trans h.ct,(cell_kept (hv.keep Bv h.nv)).trans h.cv,h.ns,h.nt,h.nv,
  ⟨⟨h.grp.1.1,by rw [hv.size]; exact h.grp.1.2⟩,fun s hs => by
   obtain ⟨A,c,h1,h2,h3,h4⟩:=(h.grp.kept (w':=w') fun k hk => hv.keep k hk.1).2 s hs
   exact ⟨A,c,h1,h2,h3,h4.mono fun k hk => ⟨hk.1,by rw [hv.size]; exact hk.2⟩⟩⟩,h.ok⟩
theorem VisW.below {b:List Bool} (h:VisW w w' g b) {B:Nat} (hg:B≤g):Below B w w' :=
 ⟨h.os,h.tape,h.output,by rw [h.size]; exact Nat.le_refl _,fun k hk => h.keep k (by omega)⟩
end
theorem blk_of_made {w:World} {base g n:Nat} {e:TypeId} {xs:List Value} (h:w.ownsRow base e 1 (.slice (some ⟨g,0,none⟩) n n) n xs):Blk w g e xs.toArray:=by
 obtain ⟨hl,h | ⟨g',cap,cur,hv,_,hh,hc,_,hsz,ht⟩⟩:=h
 ·obtain ⟨h,_⟩:=h; cases h
 ·injection hv with hv1 _ hv2
  injection hv1 with hv1
  injection hv1 with hv1
  subst hv1 hv2
  have:cur = xs.toArray:=by
   rw [← ht,List.take_of_length_le (by rw [Array.length_toList]; omega)]
  rw [← this]
  exact hh
theorem bool_info:(Tryz.prog.info? 4).map (fun i => (i.zero,i.size,i.bytes)) = some (some (.bool false),1,1):=by kernel_rfl
def ReachPost (tips:List Tp) (succ:Nat→List Int) (n:Nat) (w:World) (e:Ending) (w':World):Prop :=
 ∃ (g:Nat) (b:List Bool),e = .returned (.slice (some ⟨g,0,none⟩) n n)∧w.heap.size≤g∧Blk w' g 4 (b.map Value.bool).toArray∧b.length = n∧(∀ x,b.getD x false = true↔∃ t∈tips,∃ s:Nat,t.st = (s:Int)∧RT succ s x)∧Below w.heap.size w w'
set_option maxRecDepth 100000 in
set_option maxHeartbeats 4000000 in
theorem reach_any (A:Option Addr) (nt c B L n:Nat) (tips:List Tp) (succ:Nat→List Int) (w:World) (HR:Reads w B 2 A nt (encs encT tips)) (hB:B≤w.heap.size) (HG:GrpP (fun k => k < w.heap.size) encI 1 w L n succ) (hn:n≤1024)
    (hok:∀ s,s < n→(succ s).length≤20000∧∀ z∈succ s,0≤z∧z < (n:Int)) (ht:nt≤100000∧∀ t∈tips,0≤t.st∧t.st < (n:Int)) :
    Calls Tryz.prog 92 #[.slice A nt c,.slice (some ⟨L,0,none⟩) n n] w (ReachPost tips succ n w):=by
 obtain ⟨i0,hi,hy0,hy1,hy2⟩:=info_parts bool_info
 have hbb:i0.bytes * n≤281474976710656:=by rw [hy2]; omega
 have hmx:n≤maxLen:=by unfold maxLen; omega
 have hlt:=reads_len encT_len (by decide) HR
 have Hlt:=Lib.hid hlt
 have Ht:=Lib.hid ht.2
 have hnt:=ht.1
 have HR':=HR.more hB
 have hbase:w.heap.size + 1≤(w.alloc (.cells #[.slice (some ⟨L,0,none⟩) n n] 22)).heap.size:=by simp
 have Jt:=Blk.new w 22 #[.slice (some ⟨L,0,none⟩) n n]
 have LB:=(Below.refl w.heap.size w).alloc (Nat.le_refl _) (.cells #[.slice (some ⟨L,0,none⟩) n n] 22)
 have hmf:∀ (fn:Fn) (first cap:Array Value) (w:World),(Instr.makeFunc fn first cap).run Tryz.prog w = .ok (.func fn first cap) w:=fun _ _ _ _ => rfl
 have hsf:∀ (a:Addr) (fn:Fn) (first cap:Array Value) (m:Mode) (w:World),(store a (.func fn first cap) m).run Tryz.prog w = stored Tryz.prog w a (.func fn first cap) m:=fun a fn first cap m w => run_store Tryz.prog w a _ m rfl
 have cL:=Jt.cell 0
 clear HR hlt ht
 go_enter Tryz.func92,Tryz.ntmps92
 go_wp2_with (at_make; refine wpList_make_full _ rfl _ _ 24 rfl (w.heap.size + 1) 4 i0 _ 1 Tryz.underlying24 hi hy0 hy1 _ _ (n:Int) (n:Int) n rfl rfl rfl rfl hbb hmx hbase ?_; intro w1 hown hgr)
 have hgb:=(Below.refl (w.alloc (.cells #[.slice (some ⟨L,0,none⟩) n n] 22)).heap.size _).grown hgr (Nat.le_refl _) (fun k e => by cases e)
 have hb1:=LB.trans (hgb.mono (by simp))
 have Jt1:=Jt.below hgb Jt.lt
 rw [show (Value.bool false).cells = #[Value.bool false] from rfl,Nat.mul_one,toList_madeCells_one] at hown
 have hown':w1.ownsRow (w.heap.size + 1) 4 1 (.slice (some ⟨w.heap.size + 1,0,none⟩) n n) n (List.replicate n (.bool false)):=by
  have e:(w.alloc (.cells #[.slice (some ⟨L,0,none⟩) n n] 22)).heap.size = w.heap.size + 1:=by simp
  rw [e] at hown
  exact hown
 have hG1:=blk_of_made hown'
 have hz1:w.heap.size + 1 < w1.heap.size:=hG1.lt
 rw [show (List.replicate n (Value.bool false)).toArray = ((List.replicate n false).map Value.bool).toArray by rw [List.map_replicate]] at hG1
 have L2:=(Below.refl w1.heap.size w1).alloc (Nat.le_refl _) (.cells #[.slice (some ⟨w.heap.size + 1,0,none⟩) n n] 24)
 have L3:=L2.alloc (by simp) (.cells #[.func (.func 119) #[] #[.pointer (some ⟨w1.heap.size,0,none⟩),.pointer (some ⟨w.heap.size,0,none⟩),.pointer (some ⟨w1.heap.size + 1,0,none⟩)]] 136)
 have HE0:VisE ((w1.alloc (.cells #[.slice (some ⟨w.heap.size + 1,0,none⟩) n n] 24)).alloc (.cells #[.func (.func 119) #[] #[.pointer (some ⟨w1.heap.size,0,none⟩),.pointer (some ⟨w.heap.size,0,none⟩),.pointer (some ⟨w1.heap.size + 1,0,none⟩)]] 136)) (w.heap.size + 1) w1.heap.size w.heap.size (w1.heap.size + 1) L n succ:=by
  have B2:=(Blk.new w1 24 #[.slice (some ⟨w.heap.size + 1,0,none⟩) n n]).alloc (.cells #[.func (.func 119) #[] #[.pointer (some ⟨w1.heap.size,0,none⟩),.pointer (some ⟨w.heap.size,0,none⟩),.pointer (some ⟨w1.heap.size + 1,0,none⟩)]] 136)
  have B3:=Blk.new (w1.alloc (.cells #[.slice (some ⟨w.heap.size + 1,0,none⟩) n n] 24)) 136 #[.func (.func 119) #[] #[.pointer (some ⟨w1.heap.size,0,none⟩),.pointer (some ⟨w.heap.size,0,none⟩),.pointer (some ⟨w1.heap.size + 1,0,none⟩)]]
  rw [World.size_alloc] at B3
  have hbx:=hb1.trans (L3.mono (by omega))
  have hzx:=hbx.size
  refine ⟨B2.cell 0,(Jt1.below L3 (by omega)).cell 0,B3.cell 0,by omega,by omega,by omega,?_,hok⟩
  have hg2:=HG.kept fun k hk => hbx.block k hk
  refine ⟨⟨by have:=hg2.1; omega,by have:=hg2.1; omega⟩,fun s hs => ?_⟩
  obtain ⟨A0,c0,h1,h2,h3,h4⟩:=hg2.2 s hs
  exact ⟨A0,c0,h1,h2,h3,h4.mono fun k hk => ⟨by omega,by omega⟩⟩
 have HG0:=hG1.below L3 hG1.lt
 have hbA:=hb1.trans (L3.mono (by omega))
 clear hown hown' hgr hgb Jt Jt1 LB L2 L3 HG hok hb1 hG1 cL hbase hi hy0 hy1 hy2 hbb
 generalize ((w1.alloc (.cells #[.slice (some ⟨w.heap.size + 1,0,none⟩) n n] 24)).alloc (.cells #[.func (.func 119) #[] #[.pointer (some ⟨w1.heap.size,0,none⟩),.pointer (some ⟨w.heap.size,0,none⟩),.pointer (some ⟨w1.heap.size + 1,0,none⟩)]] 136)) = w2 at *
 generalize w1.heap.size = Bs at *
 go_loopw [15] (fun i wr => ∃ (k:Nat) (b:List Bool),k≤nt∧i = .int .i64 ((k:Nat):Int)∧VisE wr (w.heap.size + 1) Bs w.heap.size (Bs + 1) L n succ∧Blk wr (w.heap.size + 1) 4 (b.map Value.bool).toArray∧Below w.heap.size w wr ∧
  Vis succ (List.replicate n false) (fun s => ∃ t∈tips,t.st = (s:Int)) b∧(∀ j,j < k→∀ s:Nat,(tips.getD j tp0).st = (s:Int)→b.getD s false = true)) (fun i _ => nt - (intOf i).toNat)
 case atStart => exact ⟨0,_,Nat.zero_le _,rfl,HE0,HG0,hbA,Vis.refl,fun j hj => absurd hj (Nat.not_lt_zero _)⟩
 case round =>
  clear HE0 HG0 hbA
  obtain ⟨k,b,hk,rfl,HE,HG,hb,hv,hj⟩:=hrel
  have Hv:=Lib.hid hv
  have Hj:=Lib.hid hj
  have hlen:b.length = n:=by rw [hv.len,List.length_replicate]
  have Hlen:=Lib.hid hlen
  clear hv hj hlen
  by_cases hlt:k < nt
  ·have hk1:(0:Int)≤(k:Int):=by omega
   have hk2:(k:Int) < (nt:Int):=by omega
   obtain ⟨gx,ox,rfl,hgx,d0,d1⟩:=tip_cell (HR'.below hb) k hlt
   have htm:tips.getD k tp0∈tips:=getD_in _ _ _ (by have:=Hlt.out; omega)
   obtain ⟨t1,t2⟩:=Ht.out _ htm
   have Htp:Hid (tips.getD k tp0 = tips.getD k tp0):=Lib.hid rfl
   generalize hx:tips.getD k tp0 = x at *
   have Hx:=Lib.hid hx
   obtain ⟨xs,xo⟩:=x
   simp only at d0 d1 t1 t2
   obtain ⟨s,rfl⟩:∃ s:Nat,xs = (s:Int):=⟨_,(Int.toNat_of_nonneg t1).symm⟩
   have hs:s < n:=by omega
   have LB:=(Below.refl wr.heap.size wr).alloc (Nat.le_refl _) (.cells #[.int .i64 (s:Int),.string xo] 54)
   have HE1:=HE.below LB
   have HG1:=HG.below LB HG.lt
   have hC:=visit_any HE1 hn (unseen b) _ b s (Nat.le_refl _) ⟨HG1,rfl,rfl,rfl,rfl,fun _ _ => rfl⟩ Hlen.out hs
   have cv:=HE1.cv
   have Htm:Hid (∃ t∈tips,t.st = (s:Int)):=Lib.hid ⟨_,htm,rfl⟩
   have hbl:=hb.trans (LB.mono hb.size)
   clear hx htm HE HG LB Htp
   go_wp2_with fail
   refine hC.mono ?_
   rintro e w3 ⟨rfl,b3,HW3,hv3,hs3⟩
   have HE3:=HE1.vis HW3
   have hb3:=hbl.trans (HW3.below (B:=w.heap.size) (by omega))
   have Hv3:=Lib.hid hv3
   have Hs3:=Lib.hid hs3
   have HG3:=HW3.box
   clear hC HE1 HG1 cv hv3 hs3 d0 d1 HW3
   go_wp2
   go_roundw
   case rel =>
    refine ⟨k + 1,b3,by omega,by go_num,HE3,HG3,hb3,Hv.out.trans Hv3.out (fun _ h => h) (fun y hy => by rw [hy]; exact Htm.out),fun j hj y hy => ?_⟩
    by_cases hjk:j = k
    ·subst hjk
     rw [Hx.out] at hy
     have hy:(s:Int) = (y:Int):=hy
     have:y = s:=by omega
     rw [this]
     exact Hs3.out
    ·exact Hv3.out.more y (Hj.out j (by omega) y hy)
   case measure => simp [intOf]; omega
  ·obtain rfl:k = nt:=by omega
   have cs:=HE.cs
   have hfin:ReachPost tips succ n w (.returned (.slice (some ⟨w.heap.size + 1,0,none⟩) n n)) wr:=by
    have h0:∀ x,(List.replicate n false).getD x false = true→False:=fun x hx => by
     rw [List.getD_eq_getElem?_getD,List.getElem?_replicate] at hx
     split at hx <;> cases hx
    refine ⟨_,b,rfl,Nat.le_succ _,HG,Hlen.out,fun x => ⟨fun hx => ?_,?_⟩,hb⟩
    ·rcases Hv.out.new x hx with h | ⟨s,⟨t,ht1,ht2⟩,hr⟩
     ·exact (h0 x h).elim
     ·exact ⟨t,ht1,s,ht2,hr⟩
    ·rintro ⟨t,ht1,s,ht2,hr⟩
     have hs:b.getD s false = true:=by
      obtain ⟨j,hj,he⟩:=List.mem_iff_getElem.1 ht1
      refine Hj.out j (by have:=Hlt.out; omega) s ?_
      rw [List.getD_eq_getElem?_getD,List.getElem?_eq_getElem hj]
      show tips[j].st = _
      rw [he]; exact ht2
     induction hr with
     | refl => exact hs
     | step _ hz ih =>
      rcases Hv.out.closed _ ih with h | h
      ·exact (h0 _ h).elim
      ·exact h _ hz
   have Hfin:=Lib.hid hfin
   clear hfin
   go_wp2
   go_ret
   exact Hfin.out
end Go.Proofs.YtcondkihpmmnnaaGreatDoor
namespace Go.Proofs.YtcondkihpmmnnaaGreatDoor
open Go.RowKit Go.Sort
theorem stripF_eq (l:List Tp):stripF l = if twin1 (ordT l) = true then .error 12 else if 4096 < (lcpA ((ordT l).map Tp.out)).size then .error 2
    else if (ordT l).any (fun x => decide (4096 < (cutT (lcpA ((ordT l).map Tp.out)).size x).out.size)) = true then .error 2 else .ok (lcpA ((ordT l).map Tp.out),(ordT l).map (cutT (lcpA ((ordT l).map Tp.out)).size)):=rfl
def StripPost (g c:Nat) (l:List Tp) (w:World) (e:Ending) (w':World):Prop :=
 (∀ B,B≤g→Below B w w')∧match stripF l with
  | .error k => e = faultE k
  | .ok (f,r) => e = .returned (.tuple #[.string f,.slice (some ⟨g,0,none⟩) r.length c])∧RowM encT 2 w' g r.length fun a => r.getD a tp0
set_option maxRecDepth 100000 in
set_option maxHeartbeats 4000000 in
theorem strip_any (g c:Nat) (l:List Tp) (w:World) (HM:RowM encT 2 w g l.length fun a => l.getD a tp0) (hg:g < w.heap.size) (hc:l.length≤c) (hm:c≤maxLen) (hn:l.length≤1000000) (h0:0 < l.length)
    (hsz:∀ x∈l,x.out.size≤1000000) :
    Calls Tryz.prog 61 #[.slice (some ⟨g,0,none⟩) l.length c] w (StripPost g c l w):=by
 obtain ⟨r,hr⟩:∃ r,r = ordT l:=⟨_,rfl⟩
 have hr0:0 < r.length:=by
  obtain ⟨x,hx⟩:∃ x,x∈l:=List.exists_mem_of_length_pos h0
  have:x∈r:=by rw [hr,ordT_mem]; exact hx
  exact List.length_pos_of_mem this
 have hrs:∀ x∈r,x.out.size≤1000000:=fun x hx => hsz x (by rw [hr,ordT_mem] at hx; exact hx)
 have hP12:∀ W,(∀ B,B≤g→Below B w W)→twin1 r = true→StripPost g c l w (faultE 12) W:=fun W hb ht => by
  refine ⟨hb,?_⟩
  have e:stripF l = .error 12:=by rw [stripF_eq,← hr,if_pos ht]
  rw [e]
 have hP2:∀ W,(∀ B,B≤g→Below B w W)→twin1 r = false→4096 < (lcpA (r.map Tp.out)).size→StripPost g c l w (faultE 2) W:=fun W hb ht hf => by
  refine ⟨hb,?_⟩
  have e:stripF l = .error 2:=by rw [stripF_eq,← hr,if_neg (by rw [ht]; decide),if_pos hf]
  rw [e]
 have hP3:∀ W,(∀ B,B≤g→Below B w W)→twin1 r = false→¬ 4096 < (lcpA (r.map Tp.out)).size→(∃ x∈r,4096 < (cutT (lcpA (r.map Tp.out)).size x).out.size)→StripPost g c l w (faultE 2) W:=fun W hb ht hf ⟨x,hx,hx2⟩ => by
  refine ⟨hb,?_⟩
  have e:stripF l = .error 2:=by
   rw [stripF_eq,← hr,if_neg (by rw [ht]; decide),if_neg hf,if_pos]
   rw [List.any_eq_true]; exact ⟨x,hx,by simpa using hx2⟩
  rw [e]
 have hP0:∀ W,(∀ B,B≤g→Below B w W)→twin1 r = false→¬ 4096 < (lcpA (r.map Tp.out)).size→(∀ x∈r,(cutT (lcpA (r.map Tp.out)).size x).out.size≤4096)→RowM encT 2 W g r.length (cutM r (lcpA (r.map Tp.out)).size r.length) →
     StripPost g c l w (.returned (.tuple #[.string (lcpA (r.map Tp.out)),.slice (some ⟨g,0,none⟩) r.length c])) W:=fun W hb ht hf hall hR => by
  refine ⟨hb,?_⟩
  have e:stripF l = .ok (lcpA (r.map Tp.out),r.map (cutT (lcpA (r.map Tp.out)).size)):=by
   rw [stripF_eq,← hr,if_neg (by rw [ht]; decide),if_neg hf,if_neg]
   rw [List.any_eq_true]; rintro ⟨x,hx,hx2⟩; have:=hall x hx; have:=of_decide_eq_true hx2; omega
  rw [e]
  refine ⟨by rw [List.length_map],?_⟩
  rw [List.length_map]
  refine hR.congr fun a ha => ?_
  unfold cutM
  rw [if_pos ha,List.getD_eq_getElem?_getD,List.getD_eq_getElem?_getD,List.getElem?_map,List.getElem?_eq_getElem ha]
  rfl
 have HP12:=Lib.hid hP12
 have HP2:=Lib.hid hP2
 have HP3:=Lib.hid hP3
 have HP0:=Lib.hid hP0
 clear hP12 hP2 hP3 hP0
 have HSrt:=Lib.hid (sortTip_any _ eg_seqC seqCompare_any g c l w HM hg hn)
 have HCmp:=Lib.hid (fun W (h1:RowM encT 2 W g (sortT l).length fun a => (sortT l).getD a tp0) (h2:g < W.heap.size) => compactT_any g c (sortT l) W h1 h2 (by rw [sortT_len]; exact hc) hm (by rw [sortT_len]; exact hn))
 have hle:=once1_len (sortT l) (sortT l).length
 rw [List.take_length,sortT_len] at hle
 replace hle:(ordT l).length≤l.length:=hle
 rw [← hr] at hle
 have HL1:=Lib.hid hr
 clear hr
 go_enter Tryz.func61,Tryz.ntmps61
 go_wp2_with fail
 refine HSrt.out.mono ?_
 rintro e w2 ⟨rfl,HM2,hb2⟩
 have hg2:g < w2.heap.size:=Nat.lt_of_lt_of_le hg (hb2 0 (by omega)).size
 have hcc:=HCmp.out w2 HM2 hg2
 rw [sortT_len] at hcc
 have hcc':Calls Tryz.prog 81 #[.slice (some ⟨g,0,none⟩) l.length c] w2 fun e w' => e = .returned (.slice (some ⟨g,0,none⟩) r.length c)∧RowM encT 2 w' g r.length (fun a => r.getD a tp0)∧(∀ B,B≤g→Below B w2 w'):=by rw [HL1.out]; exact hcc
 have HCC:=Lib.hid hcc'
 clear HM HM2 HSrt HCmp hcc hcc'
 go_wp2_with fail
 refine HCC.out.mono ?_
 rintro e w3 ⟨rfl,HM3,hb3⟩
 have hg3:g < w3.heap.size:=Nat.lt_of_lt_of_le hg2 (hb3 0 (by omega)).size
 have hbb3:∀ B,B≤g→Below B w w3:=fun B hB => (hb2 B hB).trans (hb3 B hB)
 have HB3:=Lib.hid hbb3
 have Hl:=Lib.hid hle
 have hrl:r.length≤1000000:=by omega
 have hrc:r.length≤c:=by omega
 clear HCC HL1 hb2 hb3 hbb3 hle
 generalize hrm:r.length = m at *
 have HRM:=Lib.hid hrm
 clear hrm
 obtain ⟨i0,hi,hy0,hy1,hy2⟩:=info_parts str_infoS
 have hbb:i0.bytes * m≤281474976710656:=by rw [hy2]; omega
 have hmx:m≤maxLen:=by unfold maxLen; omega
 go_wp2_with (at_make; refine wpList_make_full _ rfl _ _ 25 rfl w3.heap.size 9 i0 _ 1 Tryz.underlying25 hi hy0 hy1 _ _ (m:Int) (m:Int) m rfl rfl rfl rfl hbb hmx (Nat.le_refl _) ?_; intro w4 hown hgr)
 have hgb:=(Below.refl w3.heap.size w3).grown hgr (Nat.le_refl _) (fun k e => by cases e)
 rw [show (Value.string ByteArray.empty).cells = #[Value.string ByteArray.empty] from rfl,Nat.mul_one,toList_madeCells_one] at hown
 have hG:=blk_of_made hown
 rw [← outsV_zero r] at hG
 have HM4:=HM3.below hgb hg3
 have hz4:w3.heap.size < w4.heap.size:=hG.lt
 have hbb4:∀ B,B≤g→Below B w w4:=fun B hB => (HB3.out B hB).trans (hgb.mono (by omega))
 have HB4:=Lib.hid hbb4
 clear hbb4 hown hgr hgb HM3 hi hy0 hy1 hy2 hbb HB3
 generalize w3.heap.size = gO at *
 go_loopw [18] (fun i wr => ∃ (k:Nat),k≤m∧i = .int .i64 ((k:Nat):Int)∧RowM encT 2 wr g m (fun a => r.getD a tp0)∧Blk wr gO 9 (outsV r m k)∧(∀ B,B≤g→Below B w wr)∧∀ j,0 < j→j < k→(r.getD (j - 1) tp0).st≠(r.getD j tp0).st) (fun i _ => m - (intOf i).toNat)
 case atStart => exact ⟨0,Nat.zero_le _,rfl,HM4,hG,HB4.out,fun j _ h => absurd h (Nat.not_lt_zero _)⟩
 case round =>
  clear HM4 hG
  obtain ⟨k,hk,rfl,HM,HG,hb,htw⟩:=hrel
  have HB:=Lib.hid hb
  have HTW:=Lib.hid htw
  clear hb htw
  have hgw:g < wr.heap.size:=Nat.lt_of_lt_of_le hg (HB.out 0 (by omega)).size
  by_cases hlt:k < m
  ·have hi1:(0:Int)≤(k:Int):=by omega
   have hi2:(k:Int) < (m:Int):=by omega
   have d0:wr.cell? ⟨g,k * 2,none⟩ = some (.int .i64 (r.getD k tp0).st):=HM.1 k 0 _ hlt rfl
   have d1:wr.cell? ⟨g,k * 2 + 1,none⟩ = some (.string (r.getD k tp0).out):=HM.1 k 1 _ hlt rfl
   obtain ⟨xs,hxs⟩:∃ xs,xs = (r.getD k tp0).st:=⟨_,rfl⟩
   obtain ⟨xo,hxo⟩:∃ xo,xo = (r.getD k tp0).out:=⟨_,rfl⟩
   rw [← hxs] at d0
   rw [← hxo] at d1
   have HXS:=Lib.hid hxs
   have HXO:=Lib.hid hxo
   clear hxs hxo
   have LB:=(Below.refl wr.heap.size wr).alloc (Nat.le_refl _) (.cells #[.int .i64 xs,.string xo] 54)
   have HM5:=HM.below LB hgw
   have HG5:=HG.below LB HG.lt
   have HX:=Blk.new wr 54 #[.int .i64 xs,.string xo]
   have HBx:=Lib.hid (fun B (hB:B≤g) => (HB.out B hB).trans (LB.mono (by omega)))
   clear LB HM HG
   have x0:=cell_regrown (HX.cell 0)
   have hfk:(outsV r m k).size = m:=by unfold outsV; simp
   have HW:=Lib.hid (fun w5 (LB:Below (wr.alloc (.cells #[.int .i64 xs,.string xo] 54)).heap.size (wr.alloc (.cells #[.int .i64 xs,.string xo] 54)) w5) => And.intro (HM5.below LB (by simp; omega)) (And.intro (HG5.below LB HG5.lt) (And.intro (HX.below LB HX.lt) (fun B (hB:B≤g) => (HBx.out B hB).trans (LB.mono (by simp; omega))))))
   have hgk:(outsV r m k)[k]? = some (.string ByteArray.empty):=by unfold outsV; simp [hlt]
   have HST:=Lib.hid (outsV_set r m k)
   rw [← HXO.out] at HST
   rcases Nat.eq_zero_or_pos k with hk0 | hk0
   ·subst hk0
    clear HM5 HG5 HX
    go_wp2
    clear d0 d1
    refine wp_region_quiet_below (by kernel_rfl) (by kernel_rfl) ?_
    repeat (go_big_quiet_step (fail))
    refine wpQuiet_nil ?_
    intro w5 hw5
    obtain ⟨HM5,HG5,HX5,HB5⟩:=HW.out w5 (below_of hw5)
    have x1:=HX5.cell 1
    have cG:=(HG5.cell 0).trans hgk
    have fG:=HG5.frozen 0
    have HM6:=HM5.below ((Below.refl gO w5).setCell (p:=⟨gO,0,none⟩) (Nat.le_refl _) (.string xo)) (by omega)
    have HG6:=HG5.set_ 0 (.string xo)
    rw [HST.out] at HG6
    have HB6:=Lib.hid (fun B (hB:B≤g) => (HB5 B hB).setCell (p:=⟨gO,0,none⟩) (by show B≤gO; omega) (.string xo))
    clear hw5 x0 HM5 HG5 HX5 HB5 hgk hfk
    go_wp2
    go_roundw
    case rel => exact ⟨0 + 1,by omega,by go_num,HM6,HG6,HB6.out,fun j h1 h2 => absurd h2 (by omega)⟩
    case measure => simp [intOf]; omega
   ·obtain ⟨k',rfl⟩:∃ k',k = k' + 1:=⟨k - 1,by omega⟩
    have e0:(wr.alloc (.cells #[.int .i64 xs,.string xo] 54)).cell? ⟨g,k' * 2,none⟩ = some (.int .i64 (r.getD k' tp0).st):=HM5.1 k' 0 _ (by omega) rfl
    have e0':=cell_regrown e0
    have hj1:(0:Int)≤(k':Int):=by omega
    have hj2:(k':Int) < (m:Int):=by omega
    have hi3:(k':Int) + 1 < (m:Int):=by omega
    obtain ⟨ps,hps⟩:∃ ps,ps = (r.getD k' tp0).st:=⟨_,rfl⟩
    rw [← hps] at e0'
    have HPS:=Lib.hid hps
    clear HM5 HG5 HX e0 hps
    go_wp2
    clear d0 d1
    refine wp_region_quiet_below (by kernel_rfl) (by kernel_rfl) ?_
    repeat (go_big_quiet_step (fail))
    refine wpQuiet_nil ?_
    intro w5 hw5
    obtain ⟨HM5,HG5,HX5,HB5⟩:=HW.out w5 (below_of hw5)
    have HEQ:=Lib.hid (show (ps == xs) = true↔ps = xs from beq_iff_eq)
    generalize (ps == xs) = q at *
    rcases q with _ | _
    ·have x1:=HX5.cell 1
     have cG:=(HG5.cell (k' + 1)).trans hgk
     have fG:=HG5.frozen (k' + 1)
     have HM6:=HM5.below ((Below.refl gO w5).setCell (p:=⟨gO,k' + 1,none⟩) (Nat.le_refl _) (.string xo)) (by omega)
     have HG6:=HG5.set_ (k' + 1) (.string xo)
     rw [HST.out] at HG6
     have HB6:=Lib.hid (fun B (hB:B≤g) => (HB5 B hB).setCell (p:=⟨gO,k' + 1,none⟩) (by show B≤gO; omega) (.string xo))
     clear hw5 x0 e0' HM5 HG5 HX5 HB5 hgk hfk
     go_wp2
     go_roundw
     case rel =>
      refine ⟨k' + 1 + 1,by omega,by go_num,HM6,HG6,HB6.out,fun j h1 h2 => ?_⟩
      rcases Nat.lt_or_ge j (k' + 1) with h | h
      ·exact HTW.out j h1 h
      ·obtain rfl:j = k' + 1:=by omega
       rw [← HXS.out,Nat.add_sub_cancel,← HPS.out]
       intro e
       exact absurd (HEQ.out.2 e) (by decide)
     case measure => simp [intOf]; omega
    ·have ht:twin1 r = true:=(twin1_iff r).2 ⟨k' + 1,by omega,by rw [HRM.out]; exact hlt,by rw [Nat.add_sub_cancel,← HPS.out,← HXS.out]; exact HEQ.out.1 rfl⟩
     have HBad:=Lib.hid (HP12.out w5 HB5 ht)
     clear hw5 x0 e0' HM5 HG5 HX5 HB5 hgk hfk ht
     go_wp2
     exact ⟨rfl,HBad.out⟩
  ·obtain rfl:m = k:=by omega
   have hfree:twin1 r = false:=by
    rcases h:twin1 r with _ | _
    ·rfl
    ·obtain ⟨j,h1,h2,h3⟩:=(twin1_iff r).1 h
     rw [HRM.out] at h2
     exact absurd h3 (HTW.out j h1 h2)
   have hGr:Reads wr wr.heap.size 1 (some ⟨gO,0,none⟩) m ((r.map Tp.out).map Value.string):=by
    have hrm:=HRM.out
    subst hrm
    rw [outsV_all] at HG
    refine ⟨by simp,fun _ => ⟨_,rfl,HG.lt,fun j u hu => ?_⟩⟩
    rw [add_mk,Nat.zero_add,HG.cell]
    simpa using hu
   have hlcp:Calls Tryz.prog 94 #[.slice (some ⟨gO,0,none⟩) m m] wr (Gives (.string (lcpA (r.map Tp.out))) wr):=by
    have hrm:=HRM.out
    rcases r with _ | ⟨x,r'⟩
    ·simp at hrm; omega
    ·subst hrm
     have:=lcp_cons (some ⟨gO,0,none⟩) (r'.length + 1) x.out (r'.map Tp.out) wr (by simpa using hGr) (fun y hy => by
      have hy':y∈(x :: r').map Tp.out:=hy
      obtain ⟨z,hz,rfl⟩:=List.mem_map.1 hy'
      have:=hrs z hz
      unfold maxLen
      omega) (by simp) (by simpa using hmx)
     rw [List.length_map] at this
     exact this
   have hpre:∀ x∈r,(lcpA (r.map Tp.out)).size≤x.out.size:=fun x hx => by
    have h1:=(lcpA_pre (r.map Tp.out) x.out (List.mem_map.2 ⟨x,hx,rfl⟩)).length_le
    rwa [bl_len,bl_len] at h1
   have hmem:∀ a,a < m→r.getD a tp0∈r:=fun a ha => getD_in r tp0 a (by rw [HRM.out]; exact ha)
   have HFR:=Lib.hid hfree
   have HPRE:=Lib.hid hpre
   have HMEM:=Lib.hid hmem
   have HLC:=Lib.hid hlcp
   have hfs:(lcpA (r.map Tp.out)).size≤1000000:=Nat.le_trans (hpre _ (hmem 0 hr0)) (hrs _ (hmem 0 hr0))
   clear hfree hpre hmem hlcp hGr HG HTW
   generalize lcpA (r.map Tp.out) = f at *
   go_wp2_with fail
   refine HLC.out.mono ?_
   rintro e w5 ⟨rfl,HB5⟩
   have HM5:=HM.below HB5 hgw
   have hg5:g < w5.heap.size:=Nat.lt_of_lt_of_le hgw HB5.size
   have HBw:=Lib.hid (fun B (hB:B≤g) => (HB.out B hB).trans (HB5.mono (by omega)))
   by_cases hf:f.size≤4096
   ·have hsh:=short_yes f w5 hf
    go_wp2_with fail
    refine hsh.mono ?_
    rintro e w6 ⟨rfl,rfl⟩
    have hfi:(f.size:Int)≤9223372036854775807:=by omega
    have hM0:RowM encT 2 w6 g m (cutM r f.size 0):=HM5.congr fun a _ => (if_neg (Nat.not_lt_zero a)).symm
    clear HM5 hsh HM HLC
    go_wp2
    go_loopw [50] (fun i wr => ∃ (k:Nat),k≤m∧i = .int .i64 ((k:Nat):Int)∧RowM encT 2 wr g m (cutM r f.size k)∧(∀ B,B≤g→Below B w wr)∧∀ j,j < k→(cutT f.size (r.getD j tp0)).out.size≤4096) (fun i _ => m - (intOf i).toNat)
    case atStart => exact ⟨0,Nat.zero_le _,rfl,hM0,HBw.out,fun j h => absurd h (Nat.not_lt_zero _)⟩
    case round =>
     clear hM0
     obtain ⟨k,hk,rfl,HM,hb,hsm⟩:=hrel
     have HB:=Lib.hid hb
     have HSM:=Lib.hid hsm
     clear hb hsm
     by_cases hlt:k < m
     ·have hi1:(0:Int)≤(k:Int):=by omega
      have hi2:(k:Int) < (m:Int):=by omega
      have hnk:cutM r f.size k k = r.getD k tp0:=if_neg (Nat.lt_irrefl k)
      have d1:wr.cell? ⟨g,k * 2 + 1,none⟩ = some (.string (r.getD k tp0).out):=HM.1 k 1 _ hlt (by rw [hnk]; rfl)
      have df:=HM.2 (k * 2 + 1) (by omega)
      have hcut:(cutT f.size (r.getD k tp0)).out = (r.getD k tp0).out.extract f.size (r.getD k tp0).out.size:=rfl
      have HM6:=cutM_set HM hlt
      rw [hcut] at HM6
      have hp1:=HPRE.out _ (HMEM.out k hlt)
      have hp2:=hrs _ (HMEM.out k hlt)
      have HSMk:=Lib.hid (fun (h:(cutT f.size (r.getD k tp0)).out.size≤4096) j (hj:j < k + 1) => show (cutT f.size (r.getD j tp0)).out.size≤4096 by
       rcases Nat.lt_or_ge j k with h1 | h1
       ·exact HSM.out j h1
       ·obtain rfl:j = k:=by omega
        exact h)
      rw [hcut] at HSMk
      have HBdk:=Lib.hid (fun (h:4096 < (cutT f.size (r.getD k tp0)).out.size) => (⟨_,HMEM.out k hlt,h⟩:∃ x∈r,4096 < (cutT f.size x).out.size))
      rw [hcut] at HBdk
      have HB6:=Lib.hid (fun v B (hB:B≤g) => (HB.out B hB).setCell (p:=⟨g,k * 2 + 1,none⟩) (by show B≤g; omega) v)
      clear hnk hcut HM
      generalize (r.getD k tp0).out = xo at *
      have hp3:(f.size:Int)≤(xo.size:Int):=by omega
      have hp4:xo.size≤maxLen:=by unfold maxLen; omega
      have hxe:(xo.extract f.size xo.size).size≤1000000:=by rw [ByteArray.size_extract]; omega
      by_cases hx:(xo.extract f.size xo.size).size≤4096
      ·have hs2:=fun W => short_yes (xo.extract f.size xo.size) W hx
       go_wp2_with fail
       refine (hs2 _).mono ?_
       rintro e w6 ⟨rfl,rfl⟩
       go_wp2
       go_roundw
       case rel => exact ⟨k + 1,by omega,by go_num,HM6,HB6.out _,HSMk.out hx⟩
       case measure => simp [intOf]; omega
      ·have hs2:=fun W => short_no (xo.extract f.size xo.size) W (by unfold maxLen; omega) hx
       go_wp2_with fail
       refine (hs2 _).mono ?_
       rintro e w6 ⟨he,rfl⟩
       unfold faultE at he
       subst he
       go_wp2
       exact ⟨rfl,HP3.out _ (HB6.out _) HFR.out (by omega) (HBdk.out (by omega))⟩
     ·obtain rfl:m = k:=by omega
      have HFin:=Lib.hid (HP0.out wr HB.out HFR.out (by omega) (fun x hx => by
       obtain ⟨j,hj,rfl⟩:=List.mem_iff_getElem.1 hx
       have:=HSM.out j (by have:=HRM.out; omega)
       rwa [List.getD_eq_getElem?_getD,List.getElem?_eq_getElem hj] at this) HM)
      clear HM
      go_wp2
      exact bodyPost_ret (v:=.tuple #[.string f,.slice (some ⟨g,0,none⟩) m c]) (by simp [results,Tryz.results61,go_sem]) rfl HFin.out
   ·have hsh:=short_no f w5 (by unfold maxLen; omega) hf
    have HBad:=Lib.hid (HP2.out w5 HBw.out HFR.out (by omega))
    go_wp2_with fail
    refine hsh.mono ?_
    rintro e w6 ⟨he,rfl⟩
    unfold faultE at he
    subst he
    go_wp2
    exact ⟨rfl,HBad.out⟩
end Go.Proofs.YtcondkihpmmnnaaGreatDoor
