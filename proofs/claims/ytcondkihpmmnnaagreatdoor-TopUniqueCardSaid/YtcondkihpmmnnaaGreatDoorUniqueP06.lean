/- Lemmas, part 6 of 39. No condition. -/
import Derived.Test.YtcondkihpmmnnaaGreatDoorUniqueP04
import Derived.Test.YtcondkihpmmnnaaGreatDoorUniqueP01
import Derived.Laws.StructEq
import Derived.ChangeKeysEq
import Derived.Lib.Strings
import Derived.Test.YtcondkihpmmnnaaGreatDoorUniqueP05
import Derived.Test.YtcondkihpmmnnaaGreatDoorUniqueP02
namespace Go.Proofs.YtcondkihpmmnnaaGreatDoor
open Go.RowKit
theorem u64_info:(Tryz.prog.info? 56).isSome = true:=by kernel_rfl
theorem u64_cells:Tryz.prog.cellsOf 56 = 1:=by kernel_rfl
theorem equalIn_int (w:World) (d:Nat) {t:TypeId} {k:IntKind} (ht:Tryz.prog.underlying t = some (.int k)) (a b:Int) :
    (Op.equalIn (d + 1) t (.int k a) (.int k b)).run Tryz.prog w = .ok (a == b) w:=by
 simp [Op.equalIn,run_underlying ht]
theorem equalIn_words (w:World) (d:Nat) {T:TypeId} (hT:Tryz.prog.underlying T = some (.array 4 56)) (a0 a1 a2 a3 b0 b1 b2 b3:Int) :
    (Op.equalIn (d + 2) T (.agg #[.int .u64 a0,.int .u64 a1,.int .u64 a2,.int .u64 a3]) (.agg #[.int .u64 b0,.int .u64 b1,.int .u64 b2,.int .u64 b3])).run Tryz.prog w = .ok (a0 == b0 && (a1 == b1 && (a2 == b2 && a3 == b3))) w:=by
 obtain ⟨i,hi⟩:=Option.isSome_iff_exists.1 u64_info
 rw [run_equalIn_array w (d + 1) _ _ hT hi,u64_cells]
 have hr:List.range 4 = [0,1,2,3]:=rfl
 rw [hr]
 have p0:∀ x y z u:Int,(part 56 #[.int .u64 x,.int .u64 y,.int .u64 z,.int .u64 u] 0).run Tryz.prog w = .ok (.int .u64 x) w:=fun x y z u => by kernel_rfl
 have p1:∀ x y z u:Int,(part 56 #[.int .u64 x,.int .u64 y,.int .u64 z,.int .u64 u] 1).run Tryz.prog w = .ok (.int .u64 y) w:=fun x y z u => by kernel_rfl
 have p2:∀ x y z u:Int,(part 56 #[.int .u64 x,.int .u64 y,.int .u64 z,.int .u64 u] 2).run Tryz.prog w = .ok (.int .u64 z) w:=fun x y z u => by kernel_rfl
 have p3:∀ x y z u:Int,(part 56 #[.int .u64 x,.int .u64 y,.int .u64 z,.int .u64 u] 3).run Tryz.prog w = .ok (.int .u64 u) w:=fun x y z u => by kernel_rfl
 cases h0:a0 == b0 <;> cases h1:a1 == b1 <;> cases h2:a2 == b2 <;> cases h3:a3 == b3 <;> simp [Op.eqItems,p0,p1,p2,p3,equalIn_int w d Tryz.underlying56,h0,h1,h2,h3]
theorem eql_words (w:World) (a0 a1 a2 a3 b0 b1 b2 b3:Int) :
    (binOp .eql 58 (.agg #[.int .u64 a0,.int .u64 a1,.int .u64 a2,.int .u64 a3]) (.agg #[.int .u64 b0,.int .u64 b1,.int .u64 b2,.int .u64 b3])).run Tryz.prog w = .ok (.bool (a0 == b0 && (a1 == b1 && (a2 == b2 && a3 == b3)))) w:=by
 simp only [binOp]
 simp [Op.equal,Op.maxDepth,equalIn_words w 9998 Tryz.underlying58]
theorem neq_words (w:World) (a0 a1 a2 a3 b0 b1 b2 b3:Int) :
    (binOp .neq 58 (.agg #[.int .u64 a0,.int .u64 a1,.int .u64 a2,.int .u64 a3]) (.agg #[.int .u64 b0,.int .u64 b1,.int .u64 b2,.int .u64 b3])).run Tryz.prog w = .ok (.bool (!(a0 == b0 && (a1 == b1 && (a2 == b2 && a3 == b3))))) w:=by
 simp only [binOp]
 simp [Op.equal,Op.maxDepth,equalIn_words w 9998 Tryz.underlying58]
theorem equalIn_text (w:World) (d:Nat) (x y:ByteArray):(Op.equalIn (d + 1) 9 (.string x) (.string y)).run Tryz.prog w = .ok (decide (x = y)) w:=by
 have e:(x == y) = decide (x = y):=by
  rw [Bool.eq_iff_iff,decide_eq_true_eq,beq_toListBytes,beq_iff_eq]
  constructor
  ·intro h
   rw [Lib.toList_data,Lib.toList_data] at h
   exact ByteArray.ext (Array.toList_inj.1 h)
  ·rintro rfl; rfl
 simp [Op.equalIn,run_underlying Tryz.underlying9,e]
theorem equalIn_bool (w:World) (d:Nat) (x y:Bool):(Op.equalIn (d + 1) 4 (.bool x) (.bool y)).run Tryz.prog w = .ok (x == y) w:=by
 simp [Op.equalIn,run_underlying Tryz.underlying4]
theorem equalIn_tip (w:World) (d:Nat) (x y:Tp):(Op.equalIn (d + 2) 54 (.agg (encT x).toArray) (.agg (encT y).toArray)).run Tryz.prog w = .ok (decide (x = y)) w:=by
 obtain ⟨a,s⟩:=x
 obtain ⟨b,t⟩:=y
 show (Op.equalIn (d + 2) 54 (.agg #[.int .i64 a,.string s]) (.agg #[.int .i64 b,.string t])).run Tryz.prog w = _
 rw [run_equalIn_struct w (d + 1) _ _ _ (by kernel_rfl) (by kernel_rfl)]
 have hf:(Tryz.prog.fieldsOf 54).toList.map (fun f => (f.name,f.type,f.offset)) = [("State",3,0),("Out",9,1)]:=by kernel_rfl
 rcases hx:(Tryz.prog.fieldsOf 54).toList with _ | ⟨f0,_ | ⟨f1,_ | ⟨f2,r⟩⟩⟩ <;> rw [hx] at hf <;> simp at hf
 obtain ⟨⟨n0,t0,o0⟩,n1,t1,o1⟩:=hf
 have p0:∀ (a:Int) (s:ByteArray),(part 3 #[.int .i64 a,.string s] 0).run Tryz.prog w = .ok (.int .i64 a) w:=fun a s => by kernel_rfl
 have p1:∀ (a:Int) (s:ByteArray),(part 9 #[.int .i64 a,.string s] 1).run Tryz.prog w = .ok (.string s) w:=fun a s => by kernel_rfl
 cases h0:a == b <;> cases h1:decide (s = t) <;> simp [Op.eqFields,n0,n1,t0,t1,o0,o1,p0,p1,equalIn_int w d Tryz.underlying3,equalIn_text w d,h0,h1] <;> simp_all
theorem eql_tip (w:World) (x y:Tp):(binOp .eql 54 (.agg (encT x).toArray) (.agg (encT y).toArray)).run Tryz.prog w = .ok (.bool (decide (x = y))) w:=by
 rw [run_eql_struct,equalIn_tip w 9998]; rfl
theorem neq_tip (w:World) (x y:Tp):(binOp .neq 54 (.agg (encT x).toArray) (.agg (encT y).toArray)).run Tryz.prog w = .ok (.bool (!decide (x = y))) w:=by
 rw [run_neq_struct,equalIn_tip w 9998]; rfl
theorem equalIn_arc (w:World) (d:Nat) (x y:Ar):(Op.equalIn (d + 3) 61 (.agg (encA x).toArray) (.agg (encA y).toArray)).run Tryz.prog w = .ok (decide (x = y)) w:=by
 obtain ⟨a,b,⟨u0,u1,u2,u3⟩,s,c⟩:=x
 obtain ⟨a',b',⟨v0,v1,v2,v3⟩,s',c'⟩:=y
 show (Op.equalIn (d + 3) 61 (.agg #[.int .i64 a,.int .i64 b,.int .u64 (u0:Int),.int .u64 (u1:Int),.int .u64 (u2:Int),.int .u64 (u3:Int),.string s,.bool c]) (.agg #[.int .i64 a',.int .i64 b',.int .u64 (v0:Int),.int .u64 (v1:Int),.int .u64 (v2:Int),.int .u64 (v3:Int),.string s',.bool c'])).run Tryz.prog w = _
 rw [run_equalIn_struct w (d + 2) _ _ _ (by kernel_rfl) (by kernel_rfl)]
 have hf:(Tryz.prog.fieldsOf 61).toList.map (fun f => (f.name,f.type,f.offset)) = [("From",3,0),("To",3,1),("Set",58,2),("Out",9,6),("Copy",4,7)]:=by kernel_rfl
 rcases hx:(Tryz.prog.fieldsOf 61).toList with _ | ⟨f0,_ | ⟨f1,_ | ⟨f2,_ | ⟨f3,_ | ⟨f4,_ | ⟨f5,r⟩⟩⟩⟩⟩⟩ <;> rw [hx] at hf <;> simp at hf
 obtain ⟨⟨n0,t0,o0⟩,⟨n1,t1,o1⟩,⟨n2,t2,o2⟩,⟨n3,t3,o3⟩,n4,t4,o4⟩:=hf
 have p0:∀ (a b u0 u1 u2 u3:Int) (s:ByteArray) (c:Bool),(part 3 #[.int .i64 a,.int .i64 b,.int .u64 u0,.int .u64 u1,.int .u64 u2,.int .u64 u3,.string s,.bool c] 0).run Tryz.prog w = .ok (.int .i64 a) w:=fun a b u0 u1 u2 u3 s c => by kernel_rfl
 have p1:∀ (a b u0 u1 u2 u3:Int) (s:ByteArray) (c:Bool),(part 3 #[.int .i64 a,.int .i64 b,.int .u64 u0,.int .u64 u1,.int .u64 u2,.int .u64 u3,.string s,.bool c] 1).run Tryz.prog w = .ok (.int .i64 b) w:=fun a b u0 u1 u2 u3 s c => by kernel_rfl
 have p2:∀ (a b u0 u1 u2 u3:Int) (s:ByteArray) (c:Bool),(part 58 #[.int .i64 a,.int .i64 b,.int .u64 u0,.int .u64 u1,.int .u64 u2,.int .u64 u3,.string s,.bool c] 2).run Tryz.prog w = .ok (.agg #[.int .u64 u0,.int .u64 u1,.int .u64 u2,.int .u64 u3]) w:=fun a b u0 u1 u2 u3 s c => by kernel_rfl
 have p3:∀ (a b u0 u1 u2 u3:Int) (s:ByteArray) (c:Bool),(part 9 #[.int .i64 a,.int .i64 b,.int .u64 u0,.int .u64 u1,.int .u64 u2,.int .u64 u3,.string s,.bool c] 6).run Tryz.prog w = .ok (.string s) w:=fun a b u0 u1 u2 u3 s c => by kernel_rfl
 have p4:∀ (a b u0 u1 u2 u3:Int) (s:ByteArray) (c:Bool),(part 4 #[.int .i64 a,.int .i64 b,.int .u64 u0,.int .u64 u1,.int .u64 u2,.int .u64 u3,.string s,.bool c] 7).run Tryz.prog w = .ok (.bool c) w:=fun a b u0 u1 u2 u3 s c => by kernel_rfl
 have ew:=equalIn_words w d Tryz.underlying58 (u0:Int) u1 u2 u3 v0 v1 v2 v3
 generalize hW:((u0:Int) == v0 && ((u1:Int) == v1 && ((u2:Int) == v2 && (u3:Int) == v3))) = W at ew
 have hW2:W = (decide ((⟨u0,u1,u2,u3⟩:St) = ⟨v0,v1,v2,v3⟩)):=by
  rw [← hW,Bool.eq_iff_iff]
  simp [Int.ofNat_inj]
 have hE:(decide ((⟨a,b,⟨u0,u1,u2,u3⟩,s,c⟩:Ar) = ⟨a',b',⟨v0,v1,v2,v3⟩,s',c'⟩)) = ((a == a') && ((b == b') && (W && (decide (s = s') && (c == c'))))):=by
  rw [hW2,Bool.eq_iff_iff]
  simp
 rw [hE]
 clear hE hW2 hW
 have es:=equalIn_text w (d + 1) s s'
 generalize decide (s = s') = D at *
 cases h0:a == a' <;> cases h1:b == b' <;> cases W <;> cases D <;> cases h4:c == c' <;> simp [Op.eqFields,n0,n1,n2,n3,n4,t0,t1,t2,t3,t4,o0,o1,o2,o3,o4,p0,p1,p2,p3,p4,equalIn_int w (d + 1) Tryz.underlying3,es,equalIn_bool w (d + 1),ew,h0,h1,h4]
theorem eql_arc (w:World) (x y:Ar):(binOp .eql 61 (.agg (encA x).toArray) (.agg (encA y).toArray)).run Tryz.prog w = .ok (.bool (decide (x = y))) w:=by
 rw [run_eql_struct,equalIn_arc w 9997]; rfl
theorem neq_arc (w:World) (x y:Ar):(binOp .neq 61 (.agg (encA x).toArray) (.agg (encA y).toArray)).run Tryz.prog w = .ok (.bool (!decide (x = y))) w:=by
 rw [run_neq_struct,equalIn_arc w 9997]; rfl
end Go.Proofs.YtcondkihpmmnnaaGreatDoor
namespace Go.Proofs.YtcondkihpmmnnaaGreatDoor
open Go.Lib
abbrev bl (s:ByteArray):List UInt8:=s.data.toList
theorem bl_app (a b:ByteArray):bl (a ++ b) = bl a ++ bl b:=by simp [bl]
theorem bl_inj {a b:ByteArray} (h:bl a = bl b):a = b:=ByteArray.ext (Array.toList_inj.1 h)
theorem bl_cut (a:ByteArray) (n:Nat):bl (a.extract n a.size) = (bl a).drop n:=by
 simp only [bl,ByteArray.data_extract,Array.toList_extract,List.extract_eq_take_drop]
 have:(a.data.toList.drop n).length = a.size - n:=by rw [List.length_drop]; rfl
 rw [← this,List.take_length]
theorem bl_front (a:ByteArray) (n:Nat):bl (a.extract 0 n) = (bl a).take n:=by
 simp [bl,ByteArray.data_extract,Array.toList_extract,List.extract_eq_take_drop]
theorem bl_len (a:ByteArray):(bl a).length = a.size:=rfl
theorem bl_nil:bl ByteArray.empty = []:=rfl
def RowRel (t:Fs) (l:List Tp) (w o:List UInt8):Prop :=
 ∃ x∈l,∃ z∈t.ends,∃ o',Way t.arcs x.st w o' z.st∧o = bl x.out ++ o' ++ bl z.out
theorem rel_rowRel (t:Fs) (w o:List UInt8):Rel t w o↔RowRel t t.starts w o:=Iff.rfl
def Many (t:Fs):Prop:=∃ w o1 o2,o1≠o2∧Rel t w o1∧Rel t w o2
def Reached (t:Fs) (l:List Tp):Prop :=
 ∃ u c,∀ x∈l,∃ x0∈t.starts,∃ o,Way t.arcs x0.st u o x.st∧bl x0.out ++ o = c ++ bl x.out
def TipsOk (t:Fs) (l:List Tp):Prop:=∀ x∈l,stOk t.n x.st
theorem lcpB_front':∀ (l:List ByteArray) (s:ByteArray),(bl (lcpB s l)) <+: bl s∧∀ x∈l,bl (lcpB s l) <+: bl x
 | [],s => ⟨List.prefix_refl _,fun x hx => by cases hx⟩
 | t :: l,s => by
  obtain ⟨h1,h2⟩:=lcpB_front' l (s.extract 0 (lcpN (bl s) (bl t)))
  have e:bl (s.extract 0 (lcpN (bl s) (bl t))) = (bl s).take (lcpN (bl s) (bl t)):=bl_front _ _
  have e2:(bl s).take (lcpN (bl s) (bl t)) <+: bl t:=by
   have:(bl s).take (lcpN (bl s) (bl t)) = (bl t).take (lcpN (bl s) (bl t)):=by
    clear h1 h2 e
    generalize bl s = a
    generalize bl t = b
    induction a generalizing b with
    | nil => simp [lcpN]
    | cons x a ih =>
     cases b with
     | nil => simp [lcpN]
     | cons y b =>
      unfold lcpN
      split
      ·rename_i h
       subst h
       simp [ih b]
      ·simp
   rw [this]
   exact List.take_prefix _ _
  refine ⟨h1.trans (by rw [e]; exact List.take_prefix _ _),fun x hx => ?_⟩
  rcases List.mem_cons.1 hx with rfl | hx
  ·exact h1.trans (by rw [e]; exact e2)
  ·exact h2 x hx
theorem lcpA_pre (l:List ByteArray):∀ x∈l,bl (lcpA l) <+: bl x:=by
 cases l with
 | nil => intro x hx; cases hx
 | cons s l =>
  intro x hx
  obtain ⟨h1,h2⟩:=lcpB_front' l s
  rcases List.mem_cons.1 hx with rfl | hx
  ·exact h1
  ·exact h2 x hx
theorem cut_back (x:Tp) (f:ByteArray) (h:bl f <+: bl x.out):bl x.out = bl f ++ bl (cutT f.size x).out:=by
 obtain ⟨r,hr⟩:=h
 unfold cutT
 rw [bl_cut,← hr,List.drop_append_of_le_length (by rw [bl_len]; exact Nat.le_refl _)]
 simp [List.drop_eq_nil_of_le]
def Apart1 {α:Type}:List α→Prop
 | x :: y :: l => x≠y∧Apart1 (y :: l)
 | _ => True
theorem once1_head {α:Type} [DecidableEq α]:∀ (x:α) (l:List α),∃ r,once1 (x :: l) = x :: r
 | x,[] => ⟨[],rfl⟩
 | x,y :: l => by
  unfold once1
  split
  ·rename_i h
   subst h
   exact once1_head x l
  ·exact ⟨_,rfl⟩
theorem once1_apart {α:Type} [DecidableEq α]:∀ l:List α,Apart1 (once1 l)
 | [] => trivial
 | [x] => trivial
 | x :: y :: l => by
  have ih:=once1_apart (y :: l)
  unfold once1
  split
  ·exact ih
  ·rename_i h
   obtain ⟨r,hr⟩:=once1_head y l
   rw [hr] at ih ⊢
   exact ⟨h,ih⟩
theorem twin1_two:∀ l:List Tp,Apart1 l→twin1 l = true→∃ x∈l,∃ y∈l,x.st = y.st∧x.out≠y.out
 | [],_,h => by cases h
 | [x],_,h => by cases h
 | x :: y :: l,ha,h => by
  unfold twin1 at h
  rw [Bool.or_eq_true] at h
  rcases h with h | h
  ·have hs:x.st = y.st:=by simpa using h
   refine ⟨x,by simp,y,by simp,hs,fun e => ha.1 ?_⟩
   cases x; cases y; simp_all
  ·obtain ⟨a,ha',b,hb',hab⟩:=twin1_two (y :: l) ha.2 h
   exact ⟨a,by simp [ha'],b,by simp [hb'],hab⟩
theorem stripF_ok {l l':List Tp} {f:ByteArray} (h:stripF l = .ok (f,l')) :
    f.size≤4096∧(∀ y∈l',y.out.size≤4096)∧(∀ y,y∈l'↔∃ x∈l,y = cutT f.size x)∧(∀ x∈l,bl x.out = bl f ++ bl (cutT f.size x).out):=by
 unfold stripF at h
 simp only at h
 split at h
 ·cases h
 split at h
 ·cases h
 split at h
 ·cases h
 rename_i h1 h2 h3
 injection h with h
 injection h with hf hl
 subst hf hl
 refine ⟨by omega,fun y hy => ?_,fun y => ?_,fun x hx => ?_⟩
 ·obtain ⟨x,hx,rfl⟩:=List.mem_map.1 hy
  rw [List.any_eq_true] at h3
  rcases Nat.lt_or_ge 4096 (cutT (lcpA ((ordT l).map Tp.out)).size x).out.size with hlt | hge
  ·exact absurd ⟨x,hx,by simpa using hlt⟩ h3
  ·exact hge
 ·rw [List.mem_map]
  constructor
  ·rintro ⟨x,hx,rfl⟩; exact ⟨x,(ordT_mem _ _).1 hx,rfl⟩
  ·rintro ⟨x,hx,rfl⟩; exact ⟨x,(ordT_mem _ _).2 hx,rfl⟩
 ·exact cut_back x _ (lcpA_pre _ _ (List.mem_map.2 ⟨x,(ordT_mem _ _).2 hx,rfl⟩))
theorem stripF_err {l:List Tp} {e:Int} (h:stripF l = .error e):e = 2∨(e = 12∧∃ x∈l,∃ y∈l,x.st = y.st∧x.out≠y.out):=by
 unfold stripF at h
 simp only at h
 split at h
 ·rename_i h1
  injection h with h
  obtain ⟨x,hx,y,hy,hxy⟩:=twin1_two _ (once1_apart _) h1
  exact .inr ⟨h.symm,x,(ordT_mem _ _).1 hx,y,(ordT_mem _ _).1 hy,hxy⟩
 split at h
 ·injection h with h; exact .inl h.symm
 split at h
 ·injection h with h; exact .inl h.symm
 ·cases h
theorem rowRel_strip {t:Fs} {l l':List Tp} {f:ByteArray} (h:stripF l = .ok (f,l')) (w o:List UInt8):RowRel t l w o↔∃ o',RowRel t l' w o'∧o = bl f ++ o':=by
 obtain ⟨_,_,hm,hc⟩:=stripF_ok h
 constructor
 ·rintro ⟨x,hx,z,hz,o',k,rfl⟩
  refine ⟨bl (cutT f.size x).out ++ o' ++ bl z.out,⟨cutT f.size x,(hm _).2 ⟨x,hx,rfl⟩,z,hz,o',k,rfl⟩,?_⟩
  rw [hc x hx]
  simp
 ·rintro ⟨o',⟨y,hy,z,hz,o2,k,rfl⟩,rfl⟩
  obtain ⟨x,hx,rfl⟩:=(hm y).1 hy
  refine ⟨x,hx,z,hz,o2,k,?_⟩
  rw [hc x hx]
  simp
theorem Ar.putB_bl (x:Ar) (b:UInt8):bl (x.putB b.toNat) = x.put b:=by
 unfold Ar.putB Ar.put
 rw [bl_app]
 congr 1
 cases x.cp <;> simp [bl]
theorem behindF_mem {arcs:List Ar} {l:List Tp} {b:Nat} (y:Tp):y∈behindF arcs l b↔∃ x∈l,∃ a∈arcs,a.fr = x.st∧a.set.m b = true∧y = ⟨a.to,x.out ++ a.putB b⟩:=by
 unfold behindF
 simp only [List.mem_flatMap,List.mem_map,List.mem_filter,Bool.and_eq_true,beq_iff_eq]
 constructor
 ·rintro ⟨x,hx,a,⟨ha,h1,h2⟩,rfl⟩; exact ⟨x,hx,a,ha,h1,h2,rfl⟩
 ·rintro ⟨x,hx,a,ha,h1,h2,rfl⟩; exact ⟨x,hx,a,⟨ha,h1,h2⟩,rfl⟩
theorem rowRel_behind {t:Fs} {l:List Tp} {b:UInt8} (w o:List UInt8):RowRel t l (b :: w) o↔RowRel t (behindF t.arcs l b.toNat) w o:=by
 constructor
 ·rintro ⟨x,hx,z,hz,o',k,rfl⟩
  obtain ⟨a,ha,hf,hb,o2,k',rfl⟩:=Way.cons_iff.1 k
  refine ⟨⟨a.to,x.out ++ a.putB b.toNat⟩,(behindF_mem _).2 ⟨x,hx,a,ha,hf,hb,rfl⟩,z,hz,o2,k',?_⟩
  show _ = bl (x.out ++ a.putB b.toNat) ++ o2 ++ bl z.out
  rw [bl_app,Ar.putB_bl]
  simp
 ·rintro ⟨y,hy,z,hz,o',k,rfl⟩
  obtain ⟨x,hx,a,ha,hf,hb,rfl⟩:=(behindF_mem _).1 hy
  refine ⟨x,hx,z,hz,a.put b ++ o',.cons a ha hf hb k,?_⟩
  show bl (x.out ++ a.putB b.toNat) ++ o' ++ bl z.out = _
  rw [bl_app,Ar.putB_bl]
  simp
theorem tail_outs {t:Fs} {l:List Tp} (s:ByteArray):(s∈l.flatMap fun x => (t.ends.filter fun z => z.st == x.st).map fun z => x.out ++ z.out)↔RowRel t l [] (bl s):=by
 simp only [List.mem_flatMap,List.mem_map,List.mem_filter,beq_iff_eq]
 constructor
 ·rintro ⟨x,hx,z,⟨hz,hs⟩,rfl⟩
  refine ⟨x,hx,z,hz,[],?_,by rw [bl_app]; simp⟩
  rw [hs]; exact .nil _
 ·rintro ⟨x,hx,z,hz,o',k,ho⟩
  obtain ⟨rfl,e⟩:=Way.nil_iff.1 k
  exact ⟨x,hx,z,⟨hz,e⟩,bl_inj (by rw [bl_app,ho]; simp)⟩
theorem rowRel_nil_ex {t:Fs} {l:List Tp} {o:List UInt8} (h:RowRel t l [] o):∃ s,bl s = o∧RowRel t l [] (bl s):=⟨⟨o.toArray⟩,rfl,h⟩
theorem tailF_ok {t:Fs} {l:List Tp} {e:Bool} {s:ByteArray} (h:tailF t.ends l = .ok (e,s)) :
    s.size≤4096∧(e = false→s = ByteArray.empty)∧∀ o,RowRel t l [] o↔e = true∧o = bl s:=by
 unfold tailF at h
 have hm:=fun s => tail_outs (t:=t) (l:=l) s
 split at h
 ·rename_i hn
  injection h with h
  injection h with he hs
  subst he hs
  refine ⟨by decide,fun _ => rfl,fun o => ⟨fun ho => ?_,fun ho => by cases ho.1⟩⟩
  obtain ⟨s,rfl,hs⟩:=rowRel_nil_ex ho
  have:=(hm s).2 hs
  rw [hn] at this
  cases this
 ·rename_i s' r hn
  split at h
  ·rename_i hall
   split at h
   ·cases h
   ·injection h with h
    injection h with he hs
    subst he hs
    refine ⟨by omega,(by intro h; cases h),fun o => ⟨fun ho => ?_,?_⟩⟩
    ·obtain ⟨s,rfl,hs⟩:=rowRel_nil_ex ho
     have:=(hm s).2 hs
     rw [hn] at this
     rcases List.mem_cons.1 this with rfl | hr
     ·exact ⟨rfl,rfl⟩
     ·rw [List.all_eq_true] at hall
      have:=hall s hr
      have:s = s':=bl_inj (by rw [beq_toListBytes,beq_iff_eq,Lib.toList_data,Lib.toList_data] at this; exact this)
      subst this
      exact ⟨rfl,rfl⟩
    ·rintro ⟨_,rfl⟩
     exact (hm s').1 (by rw [hn]; simp)
  ·cases h
theorem tailF_err {t:Fs} {l:List Tp} {e:Int} (h:tailF t.ends l = .error e):e = 2∨(e = 12∧∃ o1 o2,o1≠o2∧RowRel t l [] o1∧RowRel t l [] o2):=by
 unfold tailF at h
 have hm:=fun s => tail_outs (t:=t) (l:=l) s
 split at h
 ·cases h
 ·rename_i s' r hn
  split at h
  ·split at h
   ·injection h with h; exact .inl h.symm
   ·cases h
  ·rename_i hall
   injection h with h
   refine .inr ⟨h.symm,?_⟩
   rw [Bool.not_eq_true,List.all_eq_false] at hall
   obtain ⟨x,hx,hne⟩:=hall
   refine ⟨bl s',bl x,fun e => hne ?_,(hm s').1 (by rw [hn]; simp),(hm x).1 (by rw [hn]; simp [hx])⟩
   rw [bl_inj e,beq_toListBytes]; exact beq_self_eq_true _
theorem Reached.rel {t:Fs} {l:List Tp} {u c:List UInt8} (h:∀ x∈l,∃ x0∈t.starts,∃ o,Way t.arcs x0.st u o x.st∧bl x0.out ++ o = c ++ bl x.out) {w o:List UInt8} (k:RowRel t l w o):Rel t (u ++ w) (c ++ o):=by
 obtain ⟨x,hx,z,hz,o',k',rfl⟩:=k
 obtain ⟨x0,hx0,o0,h0,e0⟩:=h x hx
 refine ⟨x0,hx0,z,hz,o0 ++ o',h0.app k',?_⟩
 have:bl x0.out ++ (o0 ++ o') = c ++ bl x.out ++ o':=by rw [← List.append_assoc,e0]
 rw [this]
 simp
theorem Reached.many {t:Fs} {l:List Tp} (hu:∀ s,stOk t.n s→Useful t s) (h:Reached t l) (hok:TipsOk t l) (k:∃ x∈l,∃ y∈l,x.st = y.st∧x.out≠y.out):Many t:=by
 obtain ⟨u,c,h⟩:=h
 obtain ⟨x,hx,y,hy,hs,hne⟩:=k
 obtain ⟨_,_,z,hz,w,o,hw⟩:=hu x.st (hok x hx)
 refine ⟨u ++ w,c ++ (bl x.out ++ o ++ bl z.out),c ++ (bl y.out ++ o ++ bl z.out),fun e => hne ?_,Reached.rel h ⟨x,hx,z,hz,o,hw,rfl⟩,Reached.rel h ⟨y,hy,z,hz,o,hs ▸ hw,rfl⟩⟩
 have:=List.append_cancel_left e
 rw [List.append_assoc,List.append_assoc] at this
 exact bl_inj (List.append_cancel_right this)
theorem Reached.many0 {t:Fs} {l:List Tp} (h:Reached t l) (k:∃ o1 o2,o1≠o2∧RowRel t l [] o1∧RowRel t l [] o2):Many t:=by
 obtain ⟨u,c,h⟩:=h
 obtain ⟨o1,o2,hne,h1,h2⟩:=k
 exact ⟨u ++ [],c ++ o1,c ++ o2,fun e => hne (List.append_cancel_left e),Reached.rel h h1,Reached.rel h h2⟩
theorem Reached.behind {t:Fs} {l:List Tp} (h:Reached t l) (b:Nat) (hb:b < 256):Reached t (behindF t.arcs l b):=by
 obtain ⟨u,c,h⟩:=h
 refine ⟨u ++ [b.toUInt8],c,fun y hy => ?_⟩
 obtain ⟨x,hx,a,ha,hf,hm,rfl⟩:=(behindF_mem y).1 hy
 obtain ⟨x0,hx0,o,k,e⟩:=h x hx
 have e8:(b.toUInt8).toNat = b:=by simp; omega
 refine ⟨x0,hx0,o ++ a.put b.toUInt8,Way.snoc_iff.2 ⟨x.st,o,k,a,ha,hf,by rw [e8]; exact hm,rfl,rfl⟩,?_⟩
 show _ = c ++ bl (x.out ++ a.putB b)
 rw [bl_app,← List.append_assoc,e,← Ar.putB_bl,e8]
 simp
theorem Reached.strip {t:Fs} {l l':List Tp} {f:ByteArray} (h:Reached t l) (hs:stripF l = .ok (f,l')):Reached t l':=by
 obtain ⟨u,c,h⟩:=h
 obtain ⟨_,_,hm,hc⟩:=stripF_ok hs
 refine ⟨u,c ++ bl f,fun y hy => ?_⟩
 obtain ⟨x,hx,rfl⟩:=(hm y).1 hy
 obtain ⟨x0,hx0,o,k,e⟩:=h x hx
 exact ⟨x0,hx0,o,k,by rw [e,hc x hx]; simp⟩
theorem TipsOk.behind {t:Fs} {l:List Tp} (hr:Right t) (b:Nat):TipsOk t (behindF t.arcs l b):=fun y hy => by
 obtain ⟨x,hx,a,ha,hf,hm,rfl⟩:=(behindF_mem y).1 hy
 exact (hr.2.2.2 a ha).2
theorem TipsOk.strip {t:Fs} {l l':List Tp} {f:ByteArray} (h:TipsOk t l) (hs:stripF l = .ok (f,l')):TipsOk t l':=fun y hy => by
 obtain ⟨x,hx,rfl⟩:=((stripF_ok hs).2.2.1 y).1 hy
 exact h x hx
end Go.Proofs.YtcondkihpmmnnaaGreatDoor
namespace Go.Proofs.YtcondkihpmmnnaaGreatDoor
open Go.Lib
def EntOk (arcs:List Ar) (rows:List (List Tp)) (l:List Tp) (z:Int) (o:ByteArray) (b:Nat):Prop :=
 (behindF arcs l b = []∧z = -1∧o = ByteArray.empty)∨(∃ j:Nat,z = j∧∃ r',stripF (behindF arcs l b) = .ok (o,r')∧rows[j]? = some r')
def RowOk (arcs:List Ar) (rows:List (List Tp)) (l:List Tp) (next:List Int) (outs:List ByteArray) (k:Nat):Prop :=
 next.length = k∧outs.length = k∧∀ b,b < k→EntOk arcs rows l (next.getD b 0) (outs.getD b ByteArray.empty) b
theorem pre_get {α:Type} {l l':List α} (h:l <+: l') {j:Nat} {x:α} (hj:l[j]? = some x):l'[j]? = some x:=by
 obtain ⟨r,rfl⟩:=h
 have hlt:j < l.length:=by
  rcases Nat.lt_or_ge j l.length with h | h
  ·exact h
  ·rw [List.getElem?_eq_none h] at hj; cases hj
 rw [List.getElem?_append_left hlt]
 exact hj
theorem EntOk.mono {arcs:List Ar} {rows rows':List (List Tp)} {l:List Tp} {z:Int} {o:ByteArray} {b:Nat} (h:EntOk arcs rows l z o b) (hp:rows <+: rows'):EntOk arcs rows' l z o b:=by
 rcases h with h | ⟨j,hz,r',hs,hr⟩
 ·exact .inl h
 ·exact .inr ⟨j,hz,r',hs,pre_get hp hr⟩
theorem RowOk.mono {arcs:List Ar} {rows rows':List (List Tp)} {l:List Tp} {next:List Int} {outs:List ByteArray} {k:Nat} (h:RowOk arcs rows l next outs k) (hp:rows <+: rows'):RowOk arcs rows' l next outs k :=
 ⟨h.1,h.2.1,fun b hb => (h.2.2 b hb).mono hp⟩
theorem getD_snoc_lt {α:Type} (l:List α) (x d:α) (b:Nat) (h:b < l.length):(l ++ [x]).getD b d = l.getD b d:=by
 rw [List.getD_eq_getElem?_getD,List.getD_eq_getElem?_getD,List.getElem?_append_left h]
theorem getD_snoc_eq {α:Type} (l:List α) (x d:α):(l ++ [x]).getD l.length d = x:=by
 rw [List.getD_eq_getElem?_getD,List.getElem?_append_right (Nat.le_refl _)]
 simp
theorem RowOk.snoc {arcs:List Ar} {rows:List (List Tp)} {l:List Tp} {next:List Int} {outs:List ByteArray} {k:Nat} (h:RowOk arcs rows l next outs k) {z:Int} {o:ByteArray} (he:EntOk arcs rows l z o k):RowOk arcs rows l (next ++ [z]) (outs ++ [o]) (k + 1):=by
 obtain ⟨h1,h2,h3⟩:=h
 refine ⟨by simp [h1],by simp [h2],fun b hb => ?_⟩
 rcases Nat.lt_or_ge b k with hlt | hge
 ·rw [getD_snoc_lt _ _ _ _ (by omega),getD_snoc_lt _ _ _ _ (by omega)]
  exact h3 b hlt
 ·have:b = k:=by omega
  subst this
  have e1:(next ++ [z]).getD b 0 = z:=by rw [← h1]; exact getD_snoc_eq _ _ _
  have e2:(outs ++ [o]).getD b ByteArray.empty = o:=by rw [← h2]; exact getD_snoc_eq _ _ _
  rw [e1,e2]
  exact he
def RowsOk (t:Fs) (most:Nat) (rows:List (List Tp)):Prop:=rows.length≤most∧∀ r∈rows,Reached t r∧TipsOk t r
theorem stateF_ok {most:Nat} {rows rows':List (List Tp)} {l:List Tp} {i:Nat} (h:stateF most rows l = .ok (i,rows')) (hm:rows.length≤most) :
    rows <+: rows'∧rows'.length≤most∧rows'[i]? = some l∧∀ r∈rows',r∈rows∨r = l:=by
 unfold stateF at h
 split at h
 ·rename_i j hj
  injection h with h
  injection h with hi hr
  subst hi hr
  refine ⟨List.prefix_refl _,hm,?_,fun r hr => .inl hr⟩
  rw [List.idxOf?_eq_some_iff] at hj
  obtain ⟨h1,h2,_⟩:=hj
  rw [List.getElem?_eq_getElem h1]
  simpa using h2
 ·split at h
  ·cases h
  ·injection h with h
   injection h with hi hr
   subst hi hr
   refine ⟨List.prefix_append _ _,by simp; omega,by simp,fun r hr => ?_⟩
   simpa using hr
theorem stateF_err {most:Nat} {rows:List (List Tp)} {l:List Tp} {e:Int} (h:stateF most rows l = .error e):e = 2:=by
 unfold stateF at h
 split at h
 ·cases h
 ·split at h
  ·injection h with h; exact h.symm
  ·cases h
section
variable {t:Fs} {most:Nat} (hr:Right t) (hu:∀ s,stOk t.n s→Useful t s)
include hr hu
omit hu in
theorem bytesF_ok {l:List Tp} {rows:List (List Tp)} (hR:RowsOk t most rows) (hl:Reached t l∧TipsOk t l):∀ (k:Nat),k≤256→∀ {acc:List (List Tp) × List Int × List ByteArray},bytesF t.arcs most l rows k = .ok acc →
    rows <+: acc.1∧RowsOk t most acc.1∧RowOk t.arcs acc.1 l acc.2.1 acc.2.2 k
 | 0,_,acc,h => by
  injection h with h
  subst h
  exact ⟨List.prefix_refl _,hR,rfl,rfl,fun b hb => absurd hb (by omega)⟩
 | k + 1,hk,acc,h => by
  unfold bytesF at h
  split at h
  ·cases h
  rename_i acc' ha
  obtain ⟨h1,h2,h3⟩:=bytesF_ok hR hl k (by omega) ha
  unfold byteF at h
  split at h
  ·rename_i hb
   injection h with h
   subst h
   exact ⟨h1,h2,h3.snoc (.inl ⟨hb,rfl,rfl⟩)⟩
  ·rename_i x r hb
   split at h
   ·cases h
   rename_i o r' hs
   split at h
   ·cases h
   rename_i i rows' hst
   injection h with h
   subst h
   obtain ⟨p1,p2,p3,p4⟩:=stateF_ok hst h2.1
   rw [← hb] at hs
   refine ⟨h1.trans p1,⟨p2,fun q hq => ?_⟩,(h3.mono p1).snoc (.inr ⟨i,rfl,r',hs,p3⟩)⟩
   rcases p4 q hq with hq | rfl
   ·exact h2.2 q hq
   ·exact ⟨(hl.1.behind k (by omega)).strip hs,(TipsOk.behind hr k).strip hs⟩
theorem bytesF_err {l:List Tp} {rows:List (List Tp)} (hR:RowsOk t most rows) (hl:Reached t l∧TipsOk t l):∀ (k:Nat),k≤256→∀ {e:Int},bytesF t.arcs most l rows k = .error e→e = 2∨(e = 12∧Many t)
 | 0,_,e,h => by cases h
 | k + 1,hk,e,h => by
  unfold bytesF at h
  split at h
  ·rename_i e' ha
   injection h with h
   subst h
   exact bytesF_err hR hl k (by omega) ha
  rename_i acc' ha
  unfold byteF at h
  split at h
  ·cases h
  ·rename_i x r hb
   split at h
   ·rename_i e' hs
    injection h with h
    subst h
    rw [← hb] at hs
    rcases stripF_err hs with h | ⟨h,hm⟩
    ·exact .inl h
    ·exact .inr ⟨h,(hl.1.behind k (by omega)).many hu (TipsOk.behind hr k) hm⟩
   rename_i o r' hs
   split at h
   ·rename_i e' hst
    injection h with h
    subst h
    exact .inl (stateF_err hst)
   ·cases h
structure Made (t:Fs) (most:Nat) (m:Mk) (s:Nat):Prop where
 rows:RowsOk t most m.rows
 next:m.next.length = s
 outs:m.outs.length = s
 ends:m.ends.length = s
 tails:m.tails.length = s
 le:s≤m.rows.length
 row:∀ i,i < s→RowOk t.arcs m.rows (m.rows.getD i []) (m.next.getD i []) (m.outs.getD i []) 256
 tail:∀ i,i < s→tailF t.ends (m.rows.getD i []) = .ok (m.ends.getD i false,m.tails.getD i ByteArray.empty)
omit hr hu in
theorem pre_getD {l l':List (List Tp)} (h:l <+: l') {j:Nat} (hj:j < l.length):l'.getD j [] = l.getD j []:=by
 rw [List.getD_eq_getElem?_getD,List.getD_eq_getElem?_getD,pre_get h (List.getElem?_eq_getElem hj),List.getElem?_eq_getElem hj]
omit hr hu in
theorem getD_mem {l:List (List Tp)} {j:Nat} (hj:j < l.length):l.getD j []∈l:=by
 rw [List.getD_eq_getElem?_getD,List.getElem?_eq_getElem hj]
 exact List.getElem_mem _
omit hu in
theorem doF_ok {m m':Mk} {s:Nat} (h:doF t most m s = .ok m') (hm:Made t most m s) (hs:s < m.rows.length):Made t most m' (s + 1)∧m.rows <+: m'.rows:=by
 unfold doF at h
 split at h
 ·cases h
 rename_i e o ht
 split at h
 ·cases h
 rename_i rows next outs hb
 injection h with h
 subst h
 have hl:=hm.rows.2 _ (getD_mem hs)
 obtain ⟨h1,h2,h3⟩:=bytesF_ok hr hm.rows hl 256 (Nat.le_refl _) hb
 simp only at h1 h2 h3
 have hpl:=h1.length_le
 refine ⟨⟨h2,by simp [hm.next],by simp [hm.outs],by simp [hm.ends],by simp [hm.tails],by simp only; omega,fun i hi => ?_,fun i hi => ?_⟩,h1⟩
 ·rcases Nat.lt_or_ge i s with hlt | hge
  ·simp only
   rw [pre_getD h1 (by omega),getD_snoc_lt _ _ _ _ (by rw [hm.next]; exact hlt),getD_snoc_lt _ _ _ _ (by rw [hm.outs]; exact hlt)]
   exact (hm.row i hlt).mono h1
  ·have:i = s:=by omega
   subst this
   simp only
   rw [pre_getD h1 hs]
   have e1:(m.next ++ [next]).getD i [] = next:=by rw [← hm.next]; exact getD_snoc_eq _ _ _
   have e2:(m.outs ++ [outs]).getD i [] = outs:=by rw [← hm.outs]; exact getD_snoc_eq _ _ _
   rw [e1,e2]
   exact h3
 ·rcases Nat.lt_or_ge i s with hlt | hge
  ·simp only
   rw [pre_getD h1 (by omega),getD_snoc_lt _ _ _ _ (by rw [hm.ends]; exact hlt),getD_snoc_lt _ _ _ _ (by rw [hm.tails]; exact hlt)]
   exact hm.tail i hlt
  ·have:i = s:=by omega
   subst this
   simp only
   rw [pre_getD h1 hs]
   have e1:(m.ends ++ [e]).getD i false = e:=by rw [← hm.ends]; exact getD_snoc_eq _ _ _
   have e2:(m.tails ++ [o]).getD i ByteArray.empty = o:=by rw [← hm.tails]; exact getD_snoc_eq _ _ _
   rw [e1,e2]
   exact ht
theorem doF_err {m:Mk} {s:Nat} {e:Int} (h:doF t most m s = .error e) (hm:Made t most m s) (hs:s < m.rows.length):e = 2∨(e = 12∧Many t):=by
 have hl:=hm.rows.2 _ (getD_mem hs)
 unfold doF at h
 split at h
 ·rename_i e' ht
  injection h with h
  subst h
  rcases tailF_err ht with h | ⟨h,k⟩
  ·exact .inl h
  ·exact .inr ⟨h,hl.1.many0 k⟩
 split at h
 ·rename_i e' hb
  injection h with h
  subst h
  exact bytesF_err hr hu hm.rows hl 256 (Nat.le_refl _) hb
 ·cases h
omit hu in
theorem loopF_ok:∀ (k s:Nat) (m m':Mk),loopF t most k s m = .ok m'→Made t most m s→most≤s + k→Made t most m' m'.rows.length∧m.rows <+: m'.rows
 | 0,s,m,m',h,hm,hk => by
  injection h with h
  subst h
  have e:m.rows.length = s:=by have:=hm.le; have:=hm.rows.1; omega
  rw [e]
  exact ⟨hm,List.prefix_refl _⟩
 | k + 1,s,m,m',h,hm,hk => by
  unfold loopF at h
  split at h
  ·rename_i hs
   split at h
   ·cases h
   rename_i m1 hd
   obtain ⟨h1,h2⟩:=doF_ok hr hd hm hs
   obtain ⟨h3,h4⟩:=loopF_ok k (s + 1) m1 m' h h1 (by omega)
   exact ⟨h3,h2.trans h4⟩
  ·injection h with h
   subst h
   have e:m.rows.length = s:=by have:=hm.le; omega
   rw [e]
   exact ⟨hm,List.prefix_refl _⟩
theorem loopF_err:∀ (k s:Nat) (m:Mk) (e:Int),loopF t most k s m = .error e→Made t most m s→e = 2∨(e = 12∧Many t)
 | 0,s,m,e,h,hm => by cases h
 | k + 1,s,m,e,h,hm => by
  unfold loopF at h
  split at h
  ·rename_i hs
   split at h
   ·rename_i e' hd
    injection h with h
    subst h
    exact doF_err hr hu hd hm hs
   rename_i m1 hd
   exact loopF_err k (s + 1) m1 e h (doF_ok hr hd hm hs).1
  ·cases h
omit hu hr in
theorem reached_starts:Reached t t.starts:=⟨[],[],fun x hx => ⟨x,hx,[],.nil _,by simp⟩⟩
structure Is (t:Fs) (most:Nat) (q:SeqM) (m:Mk):Prop where
 next:q.next = m.next
 outs:q.outs = m.outs
 ends:q.ends = m.ends
 tail:q.tail = m.tails
 made:Made t most m m.rows.length
 front:∃ l,stripF t.starts = .ok (q.front,l)∧m.rows[0]? = some l
omit hu in
theorem allF_ok {q:SeqM} (h:allF t most = .ok q):(t.starts = []∧q = seq0)∨∃ m,Is t most q m:=by
 unfold allF at h
 split at h
 ·rename_i h0
  injection h with h
  exact .inl ⟨h0,h.symm⟩
 rename_i x r h0
 split at h
 ·cases h
 rename_i front l hs
 split at h
 ·cases h
 rename_i i rows hst
 split at h
 ·cases h
 rename_i m hl
 injection h with h
 subst h
 obtain ⟨p1,p2,p3,p4⟩:=stateF_ok hst (Nat.zero_le _)
 have hR:RowsOk t most rows:=⟨p2,fun q hq => by
  rcases p4 q hq with hq | rfl
  ·cases hq
  ·exact ⟨reached_starts.strip hs,TipsOk.strip (fun x hx => hr.2.1 x hx) hs⟩⟩
 have hi:i = 0:=by
  unfold stateF at hst
  split at hst
  ·rename_i j hj; cases hj
  ·split at hst
   ·cases hst
   ·injection hst with hst
    injection hst with hi _
    exact hi.symm
 subst hi
 obtain ⟨hm,hp⟩:=loopF_ok hr most 0 ⟨rows,[],[],[],[]⟩ m hl ⟨hR,rfl,rfl,rfl,rfl,Nat.zero_le _,fun i hi => absurd hi (by omega),fun i hi => absurd hi (by omega)⟩ (by omega)
 exact .inr ⟨m,rfl,rfl,rfl,rfl,hm,l,hs,pre_get hp p3⟩
theorem allF_err {e:Int} (h:allF t most = .error e):e = 2∨(e = 12∧Many t):=by
 unfold allF at h
 split at h
 ·cases h
 rename_i x r h0
 split at h
 ·rename_i e' hs
  injection h with h
  subst h
  rcases stripF_err hs with h | ⟨h,k⟩
  ·exact .inl h
  ·exact .inr ⟨h,reached_starts.many hu (fun x hx => hr.2.1 x hx) k⟩
 rename_i front l hs
 split at h
 ·rename_i e' hst
  injection h with h
  subst h
  exact .inl (stateF_err hst)
 rename_i i rows hst
 split at h
 ·rename_i e' hl
  injection h with h
  subst h
  obtain ⟨p1,p2,p3,p4⟩:=stateF_ok hst (Nat.zero_le _)
  have hR:RowsOk t most rows:=⟨p2,fun q hq => by
   rcases p4 q hq with hq | rfl
   ·cases hq
   ·exact ⟨reached_starts.strip hs,TipsOk.strip (fun x hx => hr.2.1 x hx) hs⟩⟩
  exact loopF_err hr hu most 0 ⟨rows,[],[],[],[]⟩ _ hl ⟨hR,rfl,rfl,rfl,rfl,Nat.zero_le _,fun i hi => absurd hi (by omega),fun i hi => absurd hi (by omega)⟩
 ·cases h
omit hr hu in
theorem Is.runL {q:SeqM} {m:Mk} (h:Is t most q m):∀ (w o:List UInt8) (s:Nat),s < m.rows.length→(q.runL s w = some o↔RowRel t (m.rows.getD s []) w o)
 | [],o,s,hs => by
  unfold SeqM.runL SeqM.en SeqM.tl
  rw [h.ends,h.tail]
  obtain ⟨_,_,ht⟩:=tailF_ok (h.made.tail s hs)
  rw [ht o]
  cases m.ends.getD s false
  ·simp
  ·simp [eq_comm]
 | b :: w,o,s,hs => by
  have hb:=u8_lt b
  obtain ⟨_,_,hrow⟩:=h.made.row s hs
  rw [rowRel_behind]
  unfold SeqM.runL SeqM.nx SeqM.os
  rw [h.next,h.outs]
  rcases hrow b.toNat hb with ⟨h0,hz,ho⟩ | ⟨j,hz,r',hst,hj⟩
  ·rw [hz,h0]
   simp only [show (-1:Int) < 0 by decide,if_true]
   constructor
   ·intro k; cases k
   ·rintro ⟨x,hx,_⟩; cases hx
  ·rw [hz,if_neg (by omega),rowRel_strip hst]
   have hj2:j < m.rows.length:=by
    rcases Nat.lt_or_ge j m.rows.length with h | h
    ·exact h
    ·rw [List.getElem?_eq_none h] at hj; cases hj
   have hrr:m.rows.getD j [] = r':=by rw [List.getD_eq_getElem?_getD,hj]; rfl
   rw [Int.toNat_natCast]
   constructor
   ·intro k
    obtain ⟨o',k',rfl⟩:=Option.map_eq_some_iff.1 k
    rw [Is.runL h w o' j hj2,hrr] at k'
    exact ⟨o',k',rfl⟩
   ·rintro ⟨o',k',rfl⟩
    rw [(Is.runL h w o' j hj2).2 (by rw [hrr]; exact k')]
    rfl
omit hu in
theorem allF_run {q:SeqM} (h:allF t most = .ok q) (w o:List UInt8):q.run w = some o↔Rel t w o:=by
 rcases allF_ok hr h with ⟨h0,rfl⟩ | ⟨m,hm⟩
 ·constructor
  ·intro k; cases k
  ·rintro ⟨x,hx,_⟩; rw [h0] at hx; cases hx
 ·obtain ⟨l,hs,h0⟩:=hm.front
  have h1:0 < m.rows.length:=by
   rcases Nat.lt_or_ge 0 m.rows.length with h | h
   ·exact h
   ·rw [List.getElem?_eq_none h] at h0; cases h0
  have hrr:m.rows.getD 0 [] = l:=by rw [List.getD_eq_getElem?_getD,h0]; rfl
  unfold SeqM.run
  rw [hm.next,hm.made.next,if_neg (by omega),rel_rowRel,rowRel_strip hs]
  constructor
  ·intro k
   obtain ⟨o',k',rfl⟩:=Option.map_eq_some_iff.1 k
   rw [hm.runL w o' 0 h1,hrr] at k'
   exact ⟨o',k',rfl⟩
  ·rintro ⟨o',k',rfl⟩
   rw [(hm.runL w o' 0 h1).2 (by rw [hrr]; exact k')]
   rfl
omit hu in
theorem allF_right {q:SeqM} (h:allF t most = .ok q):q.next.length≤most∧q.outs.length = q.next.length∧q.ends.length = q.next.length∧q.tail.length = q.next.length∧q.front.size≤4096∧(q.next.length = 0→q.front = ByteArray.empty) ∧
    ∀ s,s < q.next.length→(q.tl s).size≤4096∧(q.en s = false→q.tl s = ByteArray.empty)∧(q.next.getD s []).length = 256∧(q.outs.getD s []).length = 256 ∧
     ∀ b,b < 256→-1≤q.nx s b∧q.nx s b < q.next.length∧(q.os s b).size≤4096∧(q.nx s b = -1→q.os s b = ByteArray.empty):=by
 rcases allF_ok hr h with ⟨h0,rfl⟩ | ⟨m,hm⟩
 ·exact ⟨Nat.zero_le _,rfl,rfl,rfl,by decide,fun _ => rfl,fun s hs => absurd hs (Nat.not_lt_zero _)⟩
 ·obtain ⟨l,hst,h0⟩:=hm.front
  have h1:0 < m.rows.length:=by
   rcases Nat.lt_or_ge 0 m.rows.length with h | h
   ·exact h
   ·rw [List.getElem?_eq_none h] at h0; cases h0
  rw [hm.next,hm.outs,hm.ends,hm.tail,hm.made.next,hm.made.outs,hm.made.ends,hm.made.tails]
  refine ⟨hm.made.rows.1,rfl,rfl,rfl,(stripF_ok hst).1,fun h => by omega,fun s hs => ?_⟩
  unfold SeqM.tl SeqM.en SeqM.nx SeqM.os
  rw [hm.next,hm.outs,hm.ends,hm.tail]
  obtain ⟨t1,t2,_⟩:=tailF_ok (hm.made.tail s hs)
  obtain ⟨r1,r2,r3⟩:=hm.made.row s hs
  refine ⟨t1,t2,r1,r2,fun b hb => ?_⟩
  rcases r3 b hb with ⟨_,hz,ho⟩ | ⟨j,hz,r',hst,hj⟩
  ·rw [hz,ho]
   exact ⟨by omega,by omega,by decide,fun _ => rfl⟩
  ·rw [hz]
   have hj2:j < m.rows.length:=by
    rcases Nat.lt_or_ge j m.rows.length with h | h
    ·exact h
    ·rw [List.getElem?_eq_none h] at hj; cases hj
   exact ⟨by omega,by omega,(stripF_ok hst).1,fun h => by omega⟩
end
end Go.Proofs.YtcondkihpmmnnaaGreatDoor
namespace Go.Proofs.YtcondkihpmmnnaaGreatDoor
open Go.Maps (Keyed)
set_option maxRecDepth 100000 in
theorem keyOf_tip (x:Tp) (h:TpW x):∃ l,keyOf Tryz.prog 54 (.agg (encT x).toArray) = some l:=by
 unfold keyOf
 rw [Tryz.underlying54]
 have h1:Tryz.prog.keyType 54 = true:=by kernel_rfl
 have h3:Tryz.prog.cellsOf 54 = 2:=by kernel_rfl
 have h2:(Value.agg (encT x).toArray).formed Tryz.prog 54 = true:=by simp [Value.formed,Tryz.underlying54,h3,encT]
 simp only [h1,h2,Bool.and_self,if_true]
 have c1:Tryz.prog.cellsOf 3 = 1:=by kernel_rfl
 have c2:Tryz.prog.cellsOf 9 = 1:=by kernel_rfl
 obtain ⟨d,hd⟩:∃ d,Tryz.prog.types.size = d + 1:=⟨Tryz.prog.types.size - 1,(Nat.sub_add_cancel (Nat.lt_of_le_of_lt (Nat.zero_le _) row_tip)).symm⟩
 rw [hd]
 have hv:(Value.agg (encT x).toArray).cells.toList = [.int .i64 x.st,.string x.out]:=by simp [Value.cells,encT]
 rw [hv]
 obtain ⟨q1,q2,q3⟩:=h
 have hw:(Lit.int .i64 x.st).wf = true:=by
  have e1:IntKind.i64.min = -9223372036854775808:=by decide
  have e2:IntKind.i64.max = 9223372036854775807:=by decide
  simp only [Lit.wf,e1,e2,Bool.and_eq_true,decide_eq_true_eq]
  exact ⟨q1,q2⟩
 simp [Program.keyLits,Tryz.underlying54,Tryz.underlying3,Tryz.underlying9,c1,c2,h3,hw,q3]
set_option maxRecDepth 100000 in
theorem keyOf_arc (x:Ar) (h:ArW x):∃ l,keyOf Tryz.prog 61 (.agg (encA x).toArray) = some l:=by
 unfold keyOf
 rw [Tryz.underlying61]
 have h1:Tryz.prog.keyType 61 = true:=by kernel_rfl
 have h3:Tryz.prog.cellsOf 61 = 8:=by kernel_rfl
 have h2:(Value.agg (encA x).toArray).formed Tryz.prog 61 = true:=by simp [Value.formed,Tryz.underlying61,h3,encA]
 simp only [h1,h2,Bool.and_self,if_true]
 have c1:Tryz.prog.cellsOf 3 = 1:=by kernel_rfl
 have c2:Tryz.prog.cellsOf 9 = 1:=by kernel_rfl
 have c3:Tryz.prog.cellsOf 4 = 1:=by kernel_rfl
 have c4:Tryz.prog.cellsOf 56 = 1:=by kernel_rfl
 have c5:Tryz.prog.cellsOf 58 = 4:=by kernel_rfl
 obtain ⟨d,hd⟩:∃ d,Tryz.prog.types.size = d + 2:=⟨Tryz.prog.types.size - 2,(Nat.sub_add_cancel (Nat.le_trans (by decide) (Nat.le_of_lt row_arc))).symm⟩
 rw [hd]
 have hv:(Value.agg (encA x).toArray).cells.toList = [.int .i64 x.fr,.int .i64 x.to,.int .u64 (x.set.a:Int),.int .u64 (x.set.b:Int),.int .u64 (x.set.c:Int),.int .u64 (x.set.d:Int),.string x.out,.bool x.cp]:=by simp [Value.cells,encA]
 rw [hv]
 obtain ⟨q1,q2,q3,q4,⟨q5,q6,q7,q8⟩,q9⟩:=h
 have e1:IntKind.i64.min = -9223372036854775808:=by decide
 have e2:IntKind.i64.max = 9223372036854775807:=by decide
 have e3:IntKind.u64.min = 0:=by decide
 have e4:IntKind.u64.max = 18446744073709551615:=by decide
 have w1:(Lit.int .i64 x.fr).wf = true:=by
  simp only [Lit.wf,e1,e2,Bool.and_eq_true,decide_eq_true_eq]; exact ⟨q1,q2⟩
 have w2:(Lit.int .i64 x.to).wf = true:=by
  simp only [Lit.wf,e1,e2,Bool.and_eq_true,decide_eq_true_eq]; exact ⟨q3,q4⟩
 have w3:∀ a:Nat,a < 18446744073709551616→(Lit.int .u64 (a:Int)).wf = true:=fun a ha => by
  simp only [Lit.wf,e3,e4,Bool.and_eq_true,decide_eq_true_eq]; omega
 have a1:=w3 _ q5
 have a2:=w3 _ q6
 have a3:=w3 _ q7
 have a4:=w3 _ q8
 simp [Program.keyLits,Tryz.underlying61,Tryz.underlying3,Tryz.underlying9,Tryz.underlying4,Tryz.underlying56,Tryz.underlying58,c1,c2,c3,c4,c5,h3,w1,w2,a1,a2,a3,a4,q9,List.range_succ]
end Go.Proofs.YtcondkihpmmnnaaGreatDoor
namespace Go.Proofs.YtcondkihpmmnnaaGreatDoor
open Go.RowKit
theorem St.word_m (s:St) (h:StW s):s.a = word s.m 0∧s.b = word s.m 1∧s.c = word s.m 2∧s.d = word s.m 3:=by
 obtain ⟨h1,h2,h3,h4⟩:=h
 have hm:∀ i k,k < 64→s.m (64 * i + k) = (s.w i).testBit k:=fun i k hk => by
  unfold St.m
  rw [show (64 * i + k) / 64 = i by omega,show (64 * i + k) % 64 = k by omega]
 exact ⟨(word_of _ h1 _ 0 (fun k hk => hm 0 k hk)).symm,(word_of _ h2 _ 1 (fun k hk => hm 1 k hk)).symm,(word_of _ h3 _ 2 (fun k hk => hm 2 k hk)).symm,(word_of _ h4 _ 3 (fun k hk => hm 3 k hk)).symm⟩
theorem hasS_any (s:St) (h:StW s) (b:Nat) (w:World) (hb:b < 256) :
    Calls Tryz.prog 110 #[.agg #[.int .u64 (s.a:Int),.int .u64 (s.b:Int),.int .u64 (s.c:Int),.int .u64 (s.d:Int)],.int .u8 b] w (Gives (.bool (s.m b)) w):=by
 obtain ⟨e1,e2,e3,e4⟩:=St.word_m s h
 have:=has_any s.m b w hb
 rw [← e1,← e2,← e3,← e4] at this
 exact this
end Go.Proofs.YtcondkihpmmnnaaGreatDoor
