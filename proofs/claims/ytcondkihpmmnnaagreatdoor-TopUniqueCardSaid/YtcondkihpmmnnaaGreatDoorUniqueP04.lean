/- Lemmas, part 4 of 39. No condition. -/
import Derived.Test.YtcondkihpmmnnaaGreatDoorUniqueP02
import Derived.Test.YtcondkihpmmnnaaGreatDoorUniqueP03
import Derived.Lib.Bytealg
namespace Go.Proofs.YtcondkihpmmnnaaGreatDoor
open Go.RowKit Go.Sort
section
variable {α:Type} {enc:α→List Value} {k:Nat}
def encs (enc:α→List Value) (l:List α):List Value:=l.flatMap enc
theorem encs_length (hk:∀ x,(enc x).length = k) (l:List α):(encs enc l).length = l.length * k:=by
 induction l with
 | nil => simp [encs]
 | cons x l ih =>
  have e:encs enc (x :: l) = enc x ++ encs enc l:=rfl
  rw [e,List.length_append,ih,hk,List.length_cons,Nat.succ_mul,Nat.add_comm]
theorem encs_append (l m:List α):encs enc (l ++ m) = encs enc l ++ encs enc m:=by simp [encs]
theorem encs_one (x:α):encs enc [x] = enc x:=by simp [encs]
theorem encs_snoc (l:List α) (x:α):encs enc (l ++ [x]) = encs enc l ++ enc x:=by rw [encs_append,encs_one]
theorem encs_get (hk:∀ x,(enc x).length = k) (l:List α) (d:α) (j i:Nat) (hj:j < l.length) (hi:i < k):(encs enc l)[j * k + i]? = (enc (l.getD j d))[i]?:=by
 induction l generalizing j with
 | nil => simp at hj
 | cons x l ih =>
  have e:encs enc (x :: l) = enc x ++ encs enc l:=rfl
  rw [e]
  cases j with
  | zero => rw [List.getElem?_append_left (by rw [hk]; omega),Nat.zero_mul,Nat.zero_add]; rfl
  | succ j =>
   have h1:(j + 1) * k = j * k + k:=Nat.succ_mul j k
   rw [List.getElem?_append_right (by rw [hk]; omega),hk,show (j + 1) * k + i - k = j * k + i by omega]
   have:=ih j (by simpa using hj)
   rw [this]
   rfl
theorem enc_cell {w:World} {B n:Nat} {A:Option Addr} {l:List α} (hk:∀ x,(enc x).length = k) (h0:0 < k) (HR:Reads w B k A n (encs enc l)) (d:α) (j:Nat) (hj:j < n) :
    ∃ g o,A = some ⟨g,o,none⟩∧g < B∧∀ i u,(enc (l.getD j d))[i]? = some u→w.cell? ⟨g,o + (j * k + i),none⟩ = some u:=by
 have hn:=HR.1
 rw [encs_length hk] at hn
 have hl:l.length = n:=Nat.eq_of_mul_eq_mul_right h0 hn
 obtain ⟨ad,e,hb,hc⟩:=HR.2 (by omega)
 have hlen0:0 < (enc (l.getD 0 d)).length:=by rw [hk]; exact h0
 have h00:=hc (0 * k + 0) _ ((encs_get hk l d 0 0 (by omega) h0).trans (List.getElem?_eq_getElem hlen0))
 rw [show ad.add (0 * k + 0) = ad by simp [Addr.add]] at h00
 have es:=spot_none h00
 refine ⟨ad.block,ad.off,by rw [e,← es],hb,fun i u hu => ?_⟩
 have hi:i < k:=by
  rcases Nat.lt_or_ge i (enc (l.getD j d)).length with h | h
  ·rw [hk] at h; exact h
  ·rw [List.getElem?_eq_none h] at hu; cases hu
 have:=hc (j * k + i) u (by rw [encs_get hk l d j i (by omega) hi]; exact hu)
 rw [es,add_mk] at this
 exact this
theorem reads_len {w:World} {B n:Nat} {A:Option Addr} {l:List α} (hk:∀ x,(enc x).length = k) (h0:0 < k) (HR:Reads w B k A n (encs enc l)):l.length = n:=by
 have hn:=HR.1
 rw [encs_length hk] at hn
 exact Nat.eq_of_mul_eq_mul_right h0 hn
end
theorem reads_alloc (w:World) (xs:List Value) (t:TypeId) (_h:0 < xs.length) :
    Reads (w.alloc (.cells xs.toArray t)) (w.alloc (.cells xs.toArray t)).heap.size 1 (some ⟨w.heap.size,0,none⟩) xs.length xs:=by
 refine ⟨by simp,fun _ => ⟨_,rfl,by simp,fun j u hu => ?_⟩⟩
 have hb:=Blk.new w t xs.toArray
 have:=hb.cell j
 rw [show (⟨w.heap.size,0,none⟩:Addr).add j = ⟨w.heap.size,j,none⟩ from by unfold Addr.add; split <;> simp_all]
 rw [this]
 simpa using hu
def encT (x:Tp):List Value:=[.int .i64 x.st,.string x.out]
def encA (x:Ar):List Value:=[.int .i64 x.fr,.int .i64 x.to,.int .u64 (x.set.a:Int),.int .u64 (x.set.b:Int),.int .u64 (x.set.c:Int),.int .u64 (x.set.d:Int),.string x.out,.bool x.cp]
theorem encT_len (x:Tp):(encT x).length = 2:=rfl
theorem encA_len (x:Ar):(encA x).length = 8:=rfl
theorem encT_one (x:Tp):∀ v∈encT x,v.oneCell' = true:=by
 intro v hv
 simp [encT] at hv
 rcases hv with rfl | rfl <;> rfl
theorem encA_one (x:Ar):∀ v∈encA x,v.oneCell' = true:=by
 intro v hv
 simp [encA] at hv
 rcases hv with rfl | rfl | rfl | rfl | rfl | rfl | rfl | rfl <;> rfl
def tp0:Tp:=⟨0,ByteArray.empty⟩
def ar0:Ar:=⟨0,0,⟨0,0,0,0⟩,ByteArray.empty,false⟩
theorem tip_cell {w:World} {B n:Nat} {A:Option Addr} {l:List Tp} (HR:Reads w B 2 A n (encs encT l)) (j:Nat) (hj:j < n) :
    ∃ g o,A = some ⟨g,o,none⟩∧g < B∧w.cell? ⟨g,o + j * 2,none⟩ = some (.int .i64 (l.getD j tp0).st)∧w.cell? ⟨g,o + j * 2 + 1,none⟩ = some (.string (l.getD j tp0).out):=by
 obtain ⟨g,o,e,hg,hc⟩:=enc_cell encT_len (by decide) HR tp0 j hj
 exact ⟨g,o,e,hg,hc 0 _ rfl,hc 1 _ rfl⟩
theorem arc_cell {w:World} {B n:Nat} {A:Option Addr} {l:List Ar} (HR:Reads w B 8 A n (encs encA l)) (j:Nat) (hj:j < n) :
    ∃ g o,A = some ⟨g,o,none⟩∧g < B∧w.cell? ⟨g,o + j * 8,none⟩ = some (.int .i64 (l.getD j ar0).fr)∧w.cell? ⟨g,o + j * 8 + 1,none⟩ = some (.int .i64 (l.getD j ar0).to) ∧
     w.cell? ⟨g,o + j * 8 + 2,none⟩ = some (.int .u64 ((l.getD j ar0).set.a:Int))∧w.cell? ⟨g,o + j * 8 + 3,none⟩ = some (.int .u64 ((l.getD j ar0).set.b:Int)) ∧
     w.cell? ⟨g,o + j * 8 + 4,none⟩ = some (.int .u64 ((l.getD j ar0).set.c:Int))∧w.cell? ⟨g,o + j * 8 + 5,none⟩ = some (.int .u64 ((l.getD j ar0).set.d:Int)) ∧
     w.cell? ⟨g,o + j * 8 + 6,none⟩ = some (.string (l.getD j ar0).out)∧w.cell? ⟨g,o + j * 8 + 7,none⟩ = some (.bool (l.getD j ar0).cp):=by
 obtain ⟨g,o,e,hg,hc⟩:=enc_cell encA_len (by decide) HR ar0 j hj
 exact ⟨g,o,e,hg,hc 0 _ rfl,hc 1 _ rfl,hc 2 _ rfl,hc 3 _ rfl,hc 4 _ rfl,hc 5 _ rfl,hc 6 _ rfl,hc 7 _ rfl⟩
def TpW (x:Tp):Prop:=-9223372036854775808≤x.st∧x.st≤9223372036854775807∧x.out.size≤maxLen
def StW (s:St):Prop:=s.a < 18446744073709551616∧s.b < 18446744073709551616∧s.c < 18446744073709551616∧s.d < 18446744073709551616
def ArW (x:Ar):Prop:=-9223372036854775808≤x.fr∧x.fr≤9223372036854775807∧-9223372036854775808≤x.to∧x.to≤9223372036854775807∧StW x.set∧x.out.size≤maxLen
def FstAt (w:World) (B:Nat) (t:Fs) (v:Value):Prop :=
 ∃ A1 c1 A2 c2 A3 c3,v = .agg #[.int .i64 t.n,.slice A1 t.starts.length c1,.slice A2 t.ends.length c2,.slice A3 t.arcs.length c3] ∧
  t.starts.length≤c1∧t.ends.length≤c2∧t.arcs.length≤c3∧c1≤maxLen∧c2≤maxLen∧c3≤maxLen ∧
  -9223372036854775808≤t.n∧t.n≤9223372036854775807 ∧
  Reads w B 2 A1 t.starts.length (encs encT t.starts)∧(∀ x∈t.starts,TpW x) ∧
  Reads w B 2 A2 t.ends.length (encs encT t.ends)∧(∀ x∈t.ends,TpW x) ∧
  Reads w B 8 A3 t.arcs.length (encs encA t.arcs)∧(∀ x∈t.arcs,ArW x)
theorem FstAt.below {w w':World} {B:Nat} {t:Fs} {v:Value} (h:FstAt w B t v) (hb:Below B w w'):FstAt w' B t v:=by
 obtain ⟨A1,c1,A2,c2,A3,c3,rfl,h1,h2,h3,h4,h5,h6,h7,h8,R1,W1,R2,W2,R3,W3⟩:=h
 exact ⟨A1,c1,A2,c2,A3,c3,rfl,h1,h2,h3,h4,h5,h6,h7,h8,R1.below hb,W1,R2.below hb,W2,R3.below hb,W3⟩
theorem FstAt.more {w:World} {B B':Nat} {t:Fs} {v:Value} (h:FstAt w B t v) (hb:B≤B'):FstAt w B' t v:=by
 obtain ⟨A1,c1,A2,c2,A3,c3,rfl,h1,h2,h3,h4,h5,h6,h7,h8,R1,W1,R2,W2,R3,W3⟩:=h
 exact ⟨A1,c1,A2,c2,A3,c3,rfl,h1,h2,h3,h4,h5,h6,h7,h8,R1.more hb,W1,R2.more hb,W2,R3.more hb,W3⟩
def stB' (s n:Int):Bool:=decide (0≤s) && decide (s < n)
def tipB (n:Int) (x:Tp):Bool:=stB' x.st n && decide (x.out.size≤1024)
def tipsB (l:List Tp) (n:Int):Bool:=decide (l.length≤1024) && l.all (tipB n)
def arcB (n:Int) (x:Ar):Bool:=stB' x.fr n && stB' x.to n && (x.set != St.none) && decide (x.out.size≤1024)
def fckB (t:Fs):Bool:=decide (0≤t.n) && decide (t.n≤1024) && decide (t.arcs.length≤16384) && tipsB t.starts t.n && tipsB t.ends t.n && t.arcs.all (arcB t.n)
def okE (b:Bool):Int:=if b then 0 else 1
theorem stB_ok {s n:Int} (h:stB' s n = true):stOk n s:=by
 unfold stB' at h
 simp at h
 exact h
theorem fckB_right {t:Fs} (h:fckB t = true):Right t:=by
 unfold fckB tipsB at h
 simp only [Bool.and_eq_true,decide_eq_true_eq,List.all_eq_true] at h
 obtain ⟨⟨⟨⟨⟨h1,h2⟩,h3⟩,h4⟩,h5⟩,h6⟩:=h
 refine ⟨h1,fun x hx => ?_,fun x hx => ?_,fun x hx => ?_⟩
 ·have:=h4.2 x hx
  unfold tipB at this
  rw [Bool.and_eq_true] at this
  exact stB_ok this.1
 ·have:=h5.2 x hx
  unfold tipB at this
  rw [Bool.and_eq_true] at this
  exact stB_ok this.1
 ·have:=h6 x hx
  unfold arcB at this
  simp only [Bool.and_eq_true] at this
  exact ⟨stB_ok this.1.1.1,stB_ok this.1.1.2⟩
theorem all_fail {α:Type} {p:α→Bool} {l:List α} (d:α) (k:Nat) (hk:k < l.length) (h:p (l.getD k d) = false):l.all p = false:=by
 rw [List.all_eq_false]
 rw [List.getD_eq_getElem?_getD,List.getElem?_eq_getElem hk] at h
 exact ⟨l[k],List.getElem_mem _,by simpa using h⟩
theorem all_next {α:Type} {p:α→Bool} {l:List α} (d:α) (k:Nat) (hk:k < l.length) (h:p (l.getD k d) = true) (ha:(l.take k).all p = true):(l.take (k + 1)).all p = true:=by
 rw [List.getD_eq_getElem?_getD,List.getElem?_eq_getElem hk] at h
 rw [List.take_succ_eq_append_getElem hk,List.all_append,ha]
 simpa using h
end Go.Proofs.YtcondkihpmmnnaaGreatDoor
namespace Go.Proofs.YtcondkihpmmnnaaGreatDoor
open Go.Lib
def cmpT (x y:Tp):Int:=if x.st < y.st then -1 else if y.st < x.st then 1 else compareBytes x.out.data.toList y.out.data.toList
def sortT (l:List Tp):List Tp:=l.mergeSort fun x y => !decide (cmpT y x < 0)
def once1 {α:Type} [DecidableEq α]:List α→List α
 | [] => []
 | [x] => [x]
 | x :: y :: l => if x = y then once1 (y :: l) else x :: once1 (y :: l)
theorem once1_mem {α:Type} [DecidableEq α] (z:α):∀ l:List α,z∈once1 l↔z∈l
 | [] => Iff.rfl
 | [x] => Iff.rfl
 | x :: y :: l => by
  unfold once1
  split
  ·rename_i h
   subst h
   rw [once1_mem z (x :: l)]
   simp
  ·rw [List.mem_cons,once1_mem z (y :: l),List.mem_cons (a:=z) (b:=x)]
theorem sortT_mem (z:Tp) (l:List Tp):z∈sortT l↔z∈l:=by unfold sortT; exact List.mem_mergeSort
def ordT (l:List Tp):List Tp:=once1 (sortT l)
theorem ordT_mem (z:Tp) (l:List Tp):z∈ordT l↔z∈l:=by unfold ordT; rw [once1_mem,sortT_mem]
def twin1:List Tp→Bool
 | x :: y :: l => x.st == y.st || twin1 (y :: l)
 | _ => false
def lcpA:List ByteArray→ByteArray
 | [] => ByteArray.empty
 | s :: l => lcpB s l
def cutT (n:Nat) (x:Tp):Tp:=⟨x.st,x.out.extract n x.out.size⟩
def stripF (l:List Tp):Except Int (ByteArray × List Tp) :=
 let r:=ordT l
 let f:=lcpA (r.map Tp.out)
 if twin1 r = true then .error 12
 else if 4096 < f.size then .error 2
 else if r.any (fun x => decide (4096 < (cutT f.size x).out.size)) = true then .error 2
 else .ok (f,r.map (cutT f.size))
def tailF (ends:List Tp) (l:List Tp):Except Int (Bool × ByteArray) :=
 match l.flatMap fun x => (ends.filter fun z => z.st == x.st).map fun z => x.out ++ z.out with
 | [] => .ok (false,ByteArray.empty)
 | s :: r => if r.all (fun t => t == s) = true then (if 4096 < s.size then .error 2 else .ok (true,s)) else .error 12
def Ar.putB (x:Ar) (b:Nat):ByteArray:=x.out ++ if x.cp then ⟨#[b.toUInt8]⟩ else ByteArray.empty
def behindF (arcs:List Ar) (l:List Tp) (b:Nat):List Tp :=
 l.flatMap fun x => (arcs.filter fun a => a.fr == x.st && a.set.m b).map fun a => ⟨a.to,x.out ++ a.putB b⟩
structure Mk where
 rows:List (List Tp)
 next:List (List Int)
 outs:List (List ByteArray)
 ends:List Bool
 tails:List ByteArray
def stateF (most:Nat) (rows:List (List Tp)) (l:List Tp):Except Int (Nat × List (List Tp)) :=
 match rows.idxOf? l with
 | some i => .ok (i,rows)
 | none => if most≤rows.length then .error 2 else .ok (rows.length,rows ++ [l])
def byteF (arcs:List Ar) (most:Nat) (l:List Tp) (b:Nat) (acc:List (List Tp) × List Int × List ByteArray):Except Int (List (List Tp) × List Int × List ByteArray) :=
 match behindF arcs l b with
 | [] => .ok (acc.1,acc.2.1 ++ [-1],acc.2.2 ++ [ByteArray.empty])
 | x :: r =>
  match stripF (x :: r) with
  | .error e => .error e
  | .ok (o,r') =>
   match stateF most acc.1 r' with
   | .error e => .error e
   | .ok (i,rows) => .ok (rows,acc.2.1 ++ [(i:Int)],acc.2.2 ++ [o])
def bytesF (arcs:List Ar) (most:Nat) (l:List Tp) (rows:List (List Tp)):Nat→Except Int (List (List Tp) × List Int × List ByteArray)
 | 0 => .ok (rows,[],[])
 | k + 1 =>
  match bytesF arcs most l rows k with
  | .error e => .error e
  | .ok acc => byteF arcs most l k acc
def doF (t:Fs) (most:Nat) (m:Mk) (s:Nat):Except Int Mk :=
 match tailF t.ends (m.rows.getD s []) with
 | .error e => .error e
 | .ok (e,o) =>
  match bytesF t.arcs most (m.rows.getD s []) m.rows 256 with
  | .error e => .error e
  | .ok (rows,next,outs) => .ok ⟨rows,m.next ++ [next],m.outs ++ [outs],m.ends ++ [e],m.tails ++ [o]⟩
def loopF (t:Fs) (most:Nat):Nat→Nat→Mk→Except Int Mk
 | 0,_,m => .ok m
 | k + 1,s,m =>
  if s < m.rows.length then
   match doF t most m s with
   | .error e => .error e
   | .ok m' => loopF t most k (s + 1) m'
  else .ok m
def seq0:SeqM:=⟨ByteArray.empty,[],[],[],[]⟩
def allF (t:Fs) (most:Nat):Except Int SeqM :=
 match t.starts with
 | [] => .ok seq0
 | _ :: _ =>
  match stripF t.starts with
  | .error e => .error e
  | .ok (front,l) =>
   match stateF most [] l with
   | .error e => .error e
   | .ok (_,rows) =>
    match loopF t most most 0 ⟨rows,[],[],[],[]⟩ with
    | .error e => .error e
    | .ok m => .ok ⟨front,m.next,m.outs,m.ends,m.tails⟩
end Go.Proofs.YtcondkihpmmnnaaGreatDoor
