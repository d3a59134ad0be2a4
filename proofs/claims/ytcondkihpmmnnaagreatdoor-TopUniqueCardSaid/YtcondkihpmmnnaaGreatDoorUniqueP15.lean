/- Lemmas, part 15 of 39. No condition. -/
import Derived.Test.YtcondkihpmmnnaaGreatDoorUniqueP01
import Derived.Test.YtcondkihpmmnnaaGreatDoorUniqueP11
import Derived.Great.BuildSlice
import Derived.Test.YtcondkihpmmnnaaGreatDoorUniqueP14
import Derived.Test.YtcondkihpmmnnaaGreatDoorUniqueP04
import Derived.Test.YtcondkihpmmnnaaGreatDoorUniqueP05
import Derived.Test.YtcondkihpmmnnaaGreatDoorUniqueP08
import Derived.Test.YtcondkihpmmnnaaGreatDoorUniqueP03
import Derived.Test.YtcondkihpmmnnaaGreatDoorUniqueP10
import Derived.Test.YtcondkihpmmnnaaGreatDoorRows
import Derived.ProofKit
import Derived.SizedLaws
import Derived.ShutString
import Derived.SliceStrings
namespace Go.Proofs.YtcondkihpmmnnaaGreatDoor
def onesB:Nat→Nat→Nat
 | 0,_ => 0
 | n + 1,x => x % 2 + onesB n (x / 2)
def cnt (g:Nat→Bool):Nat→Nat
 | 0 => 0
 | n + 1 => cnt g n + (g n).toNat
theorem cnt_ext {g h:Nat→Bool}:∀ n,(∀ k,k < n→g k = h k)→cnt g n = cnt h n
 | 0,_ => rfl
 | n + 1,e => by rw [cnt,cnt,cnt_ext n (fun k hk => e k (by omega)),e n (by omega)]
theorem cnt_front (g:Nat→Bool):∀ n,cnt g (n + 1) = (g 0).toNat + cnt (fun k => g (k + 1)) n
 | 0 => by simp [cnt]
 | n + 1 => by rw [cnt,cnt_front g n,cnt]; omega
theorem cnt_add (g:Nat→Bool) (a:Nat):∀ b,cnt g (a + b) = cnt g a + cnt (fun k => g (a + k)) b
 | 0 => by simp [cnt]
 | b + 1 => by rw [← Nat.add_assoc,cnt,cnt_add g a b,cnt]; omega
theorem cnt_le (g:Nat→Bool):∀ n,cnt g n≤n
 | 0 => Nat.le_refl _
 | n + 1 => by
  have:=cnt_le g n
  rw [cnt]
  cases g n <;> simp <;> omega
theorem onesB_cnt:∀ n x,onesB n x = cnt (fun k => x.testBit k) n
 | 0,_ => rfl
 | n + 1,x => by
  rw [onesB,onesB_cnt n,cnt_front]
  congr 1
  ·rw [Nat.testBit_zero]
   have:x % 2 < 2:=Nat.mod_lt _ (by decide)
   rcases Nat.lt_or_ge (x % 2) 1 with h | h
   ·have e:x % 2 = 0:=by omega
    simp [e]
   ·have e:x % 2 = 1:=by omega
    simp [e]
  ·apply cnt_ext
   intro k _
   rw [Nat.testBit_succ]
theorem onesB_word (m:Nat→Bool) (i:Nat):onesB 64 (word m i) = cnt (fun k => m (64 * i + k)) 64:=by
 rw [onesB_cnt]
 apply cnt_ext
 intro k hk
 rw [word_testBit]
 simp [hk]
theorem onesB_byte (n q r:Nat) (hr:r < 256):onesB (n + 8) (256 * q + r) = onesB n q + onesB 8 r:=by
 simp only [onesB]
 have e:(256 * q + r) / 2 / 2 / 2 / 2 / 2 / 2 / 2 / 2 = q:=by omega
 rw [e]
 omega
theorem and_cut (q r M m:Nat) (hr:r < 256) (hm:m < 256):(256 * q + r) &&& (256 * M + m) = 256 * (q &&& M) + (r &&& m):=by
 have hrm:r &&& m < 256:=Nat.lt_of_le_of_lt Nat.and_le_left hr
 apply Nat.eq_of_testBit_eq
 intro k
 rw [Nat.testBit_and,show (256:Nat) = 2 ^ 8 by decide,Nat.testBit_two_pow_mul_add q hr,Nat.testBit_two_pow_mul_add M hm,Nat.testBit_two_pow_mul_add _ hrm]
 split
 ·rw [Nat.testBit_and]
 ·rw [Nat.testBit_and]
def mask (m:Nat):Nat→Nat
 | 0 => 0
 | n + 1 => 256 * mask m n + m
def st1 (n x:Nat):Nat:=(x / 2 &&& mask 85 n) + (x &&& mask 85 n)
def st2 (n x:Nat):Nat:=(x / 4 &&& mask 51 n) + (x &&& mask 51 n)
def st3 (n x:Nat):Nat:=(x / 16 + x) &&& mask 15 n
def s1 (r:Nat):Nat:=(r / 2 &&& 85) + (r &&& 85)
def s2 (r:Nat):Nat:=(r / 4 &&& 51) + (r &&& 51)
def s3 (r:Nat):Nat:=(r / 16 + r) &&& 15
theorem fact1:∀ e,e < 2→∀ r,r < 256→(128 * e + r / 2) &&& 85 = (r / 2) &&& 85:=by decide +kernel
theorem fact2:∀ e,e < 4→∀ r,r < 256→(64 * e + r / 4) &&& 51 = (r / 4) &&& 51:=by decide +kernel
theorem fact3:∀ r,r < 256→s2 (s1 r) / 16≤4∧s2 (s1 r) % 16≤4∧s1 r < 256∧s2 (s1 r) < 256∧s3 (s2 (s1 r)) = onesB 8 r:=by decide +kernel
theorem fact4:∀ e,e < 5→∀ r,r < 69→r % 16≤4→(16 * e + (r / 16 + r)) &&& 15 = (r / 16 + r) &&& 15:=by decide +kernel
theorem st1_step (n q r:Nat) (hr:r < 256):st1 (n + 1) (256 * q + r) = 256 * st1 n q + s1 r:=by
 unfold st1 s1
 rw [mask,show (256 * q + r) / 2 = 256 * (q / 2) + (128 * (q % 2) + r / 2) by omega,and_cut _ _ _ _ (by omega) (by decide),and_cut _ _ _ _ hr (by decide),fact1 _ (Nat.mod_lt _ (by decide)) r hr]
 omega
theorem st2_step (n q r:Nat) (hr:r < 256):st2 (n + 1) (256 * q + r) = 256 * st2 n q + s2 r:=by
 unfold st2 s2
 rw [mask,show (256 * q + r) / 4 = 256 * (q / 4) + (64 * (q % 4) + r / 4) by omega,and_cut _ _ _ _ (by omega) (by decide),and_cut _ _ _ _ hr (by decide),fact2 _ (Nat.mod_lt _ (by decide)) r hr]
 omega
theorem st12_step (n q r:Nat) (hr:r < 256):st2 (n + 1) (st1 (n + 1) (256 * q + r)) = 256 * st2 n (st1 n q) + s2 (s1 r):=by
 rw [st1_step n q r hr,st2_step _ _ _ (fact3 r hr).2.2.1]
theorem st12_zero (x:Nat):st2 0 (st1 0 x) = 0:=by simp [st2,mask]
theorem st12_low:∀ n x,st2 n (st1 n x) % 16≤4
 | 0,x => by rw [st12_zero]; decide
 | n + 1,x => by
  have hr:x % 256 < 256:=Nat.mod_lt _ (by decide)
  have h:=st12_step n (x / 256) (x % 256) hr
  rw [Nat.div_add_mod] at h
  rw [h]
  have:=(fact3 _ hr).2.1
  omega
theorem st_step (n q r:Nat) (hr:r < 256):st3 (n + 1) (st2 (n + 1) (st1 (n + 1) (256 * q + r))) = 256 * st3 n (st2 n (st1 n q)) + onesB 8 r:=by
 obtain ⟨f1,f2,_,f4,f5⟩:=fact3 r hr
 rw [st12_step n q r hr,← f5]
 have hl:=st12_low n q
 generalize st2 n (st1 n q) = Q at *
 generalize s2 (s1 r) = t at *
 unfold st3 s3
 rw [mask,show (256 * Q + t) / 16 + (256 * Q + t) = 256 * (Q / 16 + Q) + (16 * (Q % 16) + (t / 16 + t)) by omega,and_cut _ _ _ _ (by omega) (by decide),fact4 _ (by omega) t (by omega) f2]
theorem st_bytes (c0 c1 c2 c3 c4 c5 c6 c7:Nat) (h0:c0 < 256) (h1:c1 < 256) (h2:c2 < 256) (h3:c3 < 256) (h4:c4 < 256) (h5:c5 < 256) (h6:c6 < 256) (h7:c7 < 256) :
    st3 8 (st2 8 (st1 8 (256 * (256 * (256 * (256 * (256 * (256 * (256 * (256 * 0 + c7) + c6) + c5) + c4) + c3) + c2) + c1) + c0))) =
     256 * (256 * (256 * (256 * (256 * (256 * (256 * (256 * 0 + onesB 8 c7) + onesB 8 c6) + onesB 8 c5) + onesB 8 c4) + onesB 8 c3) + onesB 8 c2) + onesB 8 c1) + onesB 8 c0:=by
 rw [st_step 7 _ _ h0,st_step 6 _ _ h1,st_step 5 _ _ h2,st_step 4 _ _ h3,st_step 3 _ _ h4,st_step 2 _ _ h5,st_step 1 _ _ h6,st_step 0 _ _ h7]
 simp [st3,mask]
theorem onesB_le:∀ n x,onesB n x≤n
 | 0,_ => Nat.le_refl _
 | n + 1,x => by
  have:=onesB_le n (x / 2)
  have:x % 2 < 2:=Nat.mod_lt _ (by decide)
  rw [onesB]
  omega
def fold7 (c:Nat):Nat:=((c + c / 256) + (c + c / 256) / 65536) + ((c + c / 256) + (c + c / 256) / 65536) / 4294967296
theorem fold7_sum (c0 c1 c2 c3 c4 c5 c6 c7:Nat) (h0:c0≤8) (h1:c1≤8) (h2:c2≤8) (h3:c3≤8) (h4:c4≤8) (h5:c5≤8) (h6:c6≤8) (h7:c7≤8) :
    fold7 (256 * (256 * (256 * (256 * (256 * (256 * (256 * (256 * 0 + c7) + c6) + c5) + c4) + c3) + c2) + c1) + c0) % 256 = c0 + c1 + c2 + c3 + c4 + c5 + c6 + c7:=by
 have q1:∀ Y c,c≤8→(256 * Y + c) / 256 = Y:=fun Y c h => by omega
 have q2:∀ Z d1 d0,d1≤16→d0≤16→(256 * (256 * Z + d1) + d0) / 65536 = Z:=fun Z d1 d0 h h' => by omega
 have q3:∀ Z d3 d2 d1 d0,d3≤32→d2≤32→d1≤32→d0≤32→(256 * (256 * (256 * (256 * Z + d3) + d2) + d1) + d0) / 4294967296 = Z:=fun Z d3 d2 d1 d0 a b c d => by omega
 have q4:∀ A B a b,a≤32→b≤32→(256 * A + a + (256 * B + b)) % 256 = a + b:=fun A B a b h h' => by omega
 have e1:256 * (256 * (256 * (256 * (256 * (256 * (256 * (256 * 0 + c7) + c6) + c5) + c4) + c3) + c2) + c1) + c0 + (256 * (256 * (256 * (256 * (256 * (256 * (256 * 0 + c7) + c6) + c5) + c4) + c3) + c2) + c1) =
     256 * (256 * (256 * (256 * (256 * (256 * (256 * c7 + (c6 + c7)) + (c5 + c6)) + (c4 + c5)) + (c3 + c4)) + (c2 + c3)) + (c1 + c2)) + (c0 + c1):=by omega
 unfold fold7
 rw [q1 _ _ h0,e1,q2 _ _ _ (by omega) (by omega)]
 have e2:256 * (256 * (256 * (256 * (256 * (256 * (256 * c7 + (c6 + c7)) + (c5 + c6)) + (c4 + c5)) + (c3 + c4)) + (c2 + c3)) + (c1 + c2)) + (c0 + c1) + (256 * (256 * (256 * (256 * (256 * c7 + (c6 + c7)) + (c5 + c6)) + (c4 + c5)) + (c3 + c4)) + (c2 + c3)) =
     256 * (256 * (256 * (256 * (256 * (256 * (256 * c7 + (c6 + c7)) + (c5 + c6 + c7)) + (c4 + c5 + c6 + c7)) + (c3 + c4 + c5 + c6)) + (c2 + c3 + c4 + c5)) + (c1 + c2 + c3 + c4)) + (c0 + c1 + c2 + c3):=by omega
 rw [e2,q3 _ _ _ _ _ (by omega) (by omega) (by omega) (by omega),q4 _ _ _ _ (by omega) (by omega)]
 omega
theorem ones_whole (x:Nat) (hx:x < 18446744073709551616):fold7 (st3 8 (st2 8 (st1 8 x))) % 256 = onesB 64 x:=by
 obtain ⟨c0,q0,h0,rfl⟩:∃ c q,c < 256∧x = 256 * q + c:=⟨x % 256,x / 256,Nat.mod_lt _ (by decide),by omega⟩
 obtain ⟨c1,q1,h1,rfl⟩:∃ c q,c < 256∧q0 = 256 * q + c:=⟨q0 % 256,q0 / 256,Nat.mod_lt _ (by decide),by omega⟩
 obtain ⟨c2,q2,h2,rfl⟩:∃ c q,c < 256∧q1 = 256 * q + c:=⟨q1 % 256,q1 / 256,Nat.mod_lt _ (by decide),by omega⟩
 obtain ⟨c3,q3,h3,rfl⟩:∃ c q,c < 256∧q2 = 256 * q + c:=⟨q2 % 256,q2 / 256,Nat.mod_lt _ (by decide),by omega⟩
 obtain ⟨c4,q4,h4,rfl⟩:∃ c q,c < 256∧q3 = 256 * q + c:=⟨q3 % 256,q3 / 256,Nat.mod_lt _ (by decide),by omega⟩
 obtain ⟨c5,q5,h5,rfl⟩:∃ c q,c < 256∧q4 = 256 * q + c:=⟨q4 % 256,q4 / 256,Nat.mod_lt _ (by decide),by omega⟩
 obtain ⟨c6,q6,h6,rfl⟩:∃ c q,c < 256∧q5 = 256 * q + c:=⟨q5 % 256,q5 / 256,Nat.mod_lt _ (by decide),by omega⟩
 obtain ⟨c7,q7,h7,rfl⟩:∃ c q,c < 256∧q6 = 256 * q + c:=⟨q6 % 256,q6 / 256,Nat.mod_lt _ (by decide),by omega⟩
 obtain rfl:q7 = 0:=by omega
 rw [st_bytes c0 c1 c2 c3 c4 c5 c6 c7 h0 h1 h2 h3 h4 h5 h6 h7,fold7_sum _ _ _ _ _ _ _ _ (onesB_le 8 _) (onesB_le 8 _) (onesB_le 8 _) (onesB_le 8 _) (onesB_le 8 _) (onesB_le 8 _) (onesB_le 8 _) (onesB_le 8 _)]
 rw [onesB_byte 56 _ _ h0,onesB_byte 48 _ _ h1,onesB_byte 40 _ _ h2,onesB_byte 32 _ _ h3,onesB_byte 24 _ _ h4,onesB_byte 16 _ _ h5,onesB_byte 8 _ _ h6,onesB_byte 0 _ _ h7]
 simp only [onesB,Nat.zero_add]
 omega
theorem mask_85:mask 85 8 = 6148914691236517205:=by decide
theorem mask_51:mask 51 8 = 3689348814741910323:=by decide
theorem mask_15:mask 15 8 = 1085102592571150095:=by decide
end Go.Proofs.YtcondkihpmmnnaaGreatDoor
namespace Go.Proofs.YtcondkihpmmnnaaGreatDoor
open Go.RowKit Go.Sort
section
variable {K:Act→World→Prop} {Q:Exit→Act→World→Prop} {a:Act} {W:World} {o:Oper}
theorem op_make (l:Tmp) (t:TypeId) (hop:o.op = Op.makeSlice t (.tmp l) (.tmp l)) (base:Nat)
    (e:TypeId) (i:TypeInfo) (z:Value) (size:Nat) (h1:Tryz.prog.underlying t = some (.slice e)) (h2:Tryz.prog.info? e = some i) (h3:i.zero = some z) (h4:i.size = size)
    (n:Nat) (hl:a.eval (.tmp l) = .int .i64 (n:Int)) (b2:i.bytes * n≤281474976710656) (b3:n≤maxLen) (hb:base≤W.heap.size)
    (hK:∀ W',W'.ownsRow base e size (.slice (some ⟨W.heap.size,0,none⟩) n n) n (madeCells z.cells (n * size)).toList→Below W.heap.size W W'→K (a.put o.dst (.slice (some ⟨W.heap.size,0,none⟩) n n)) W'):o.wp Tryz.prog a W K Q:=by
 obtain ⟨w',hrun,r1,r2⟩:=run_make_full (P:=Tryz.prog) W base t e i z size h1 h2 h3 h4 .i64 .i64 n b2 b3 hb
 unfold Oper.wp
 simp [execOp,hop,hl,hrun,Result.andThen]
 exact hK _ r1 ((Below.refl _ W).grown r2 (Nat.le_refl _) (fun k e => by cases e))
theorem op_alloc (T:TypeId) (z:Value) (hop:o.op = Op.alloc T)
    (hrun:∀ W,(Instr.alloc T true (.tuple #[])).run Tryz.prog W = .ok (.pointer (some ⟨W.heap.size,0,none⟩)) (W.alloc (.cells #[z] T)))
    (hK:K (a.put o.dst (.pointer (some ⟨W.heap.size,0,none⟩))) (W.alloc (.cells #[z] T))):o.wp Tryz.prog a W K Q:=by
 unfold Oper.wp
 simp [execOp,hop,hrun,Result.andThen]
 exact hK
theorem setRow_one {W:World} {g:Nat} {T:TypeId} {u:Value} (hb:Blk W g T #[u]) (v:Value):W.setRow g #[v] = W.setCell ⟨g,0,none⟩ v:=by
 unfold World.setRow World.setCell
 congr 1
 apply Array.ext_getElem?
 intro k
 simp only [Array.getElem?_modify]
 by_cases hk:g = k
 ·subst hk
  unfold Blk at hb
  simp [hb]
 ·simp [hk]
theorem op_store (T:TypeId) (x y:Operand) (hop:o.op = Op.store T x y) (g:Nat) (v u:Value) (hx:a.eval x = .pointer (some ⟨g,0,none⟩)) (hy:a.eval y = v)
    (hi:(Tryz.prog.info? T).map (·.size) = some 1) (h1:v.oneCell' = true) (hb:Blk W g T #[u])
    (hK:K (a.put o.dst undef) (W.setCell ⟨g,0,none⟩ v)):o.wp Tryz.prog a W K Q:=by
 have hs:=run_storeVar_one (P:=Tryz.prog) W g T T u v hb hi h1
 rw [setRow_one hb] at hs
 unfold Oper.wp execOp
 simp only [hop,hx,hy,Instr.storeAt,Instr.sureAddr,Sem.run_bind,Sem.run_pure,Result.andThen_ok,hs]
 exact hK
end
theorem put_same {a:Act} {d:Tmp} (h:d < a.tmps.size) (v:Value):(a.put (some d) v).tmps[d]? = some v:=by
 show (a.tmps.setIfInBounds d v)[d]? = some v
 rw [Array.getElem?_setIfInBounds_self_of_lt h]
theorem put_other {a:Act} {d x:Tmp} (h:d≠x) (v:Value):(a.put (some d) v).tmps[x]? = a.tmps[x]?:=by
 show (a.tmps.setIfInBounds d v)[x]? = _
 rw [Array.getElem?_setIfInBounds_ne h]
theorem put_size {a:Act} {d:Tmp} (v:Value):(a.put (some d) v).tmps.size = a.tmps.size:=by
 show (a.tmps.setIfInBounds d v).size = _
 rw [Array.size_setIfInBounds]
theorem eval_tmp {a:Act} {x:Tmp} {v:Value} (h:a.tmps[x]? = some v):a.eval (.tmp x) = v:=by
 unfold Act.eval
 simp only [Array.getD_eq_getD_getElem?,h,Option.getD_some]
end Go.Proofs.YtcondkihpmmnnaaGreatDoor
namespace Go.Proofs.YtcondkihpmmnnaaGreatDoor
open Go.RowKit Go.Sort
structure PutW (B:Nat) (W0 wr:World) (G:Nat) (n:Int) (vS vE vA:Value) (S E:List Tp) (A:List Ar):Prop where
 keep:∀ i,i < W0.heap.size→i≠G→wr.heap[i]? = W0.heap[i]?
 gB:B≤G
 gG:G < W0.heap.size
 t:Blk wr G 32 #[.int .i64 n,vS,vE,vA]
 oS:wr.ownsRow W0.heap.size 54 2 vS S.length (encs encT S)
 oE:wr.ownsRow W0.heap.size 54 2 vE E.length (encs encT E)
 oA:wr.ownsRow W0.heap.size 61 8 vA A.length (encs encA A)
 ap:Apart vS vE
 bel:Below B W0 wr
section
variable {B:Nat} {W0 wr w':World} {G:Nat} {n:Int} {vS vE vA:Value} {S E:List Tp} {A:List Ar}
theorem PutW.new (h:Blk W0 G 32 #[.int .i64 n,.slice none 0 0,.slice none 0 0,.slice none 0 0]) (hB:B≤G):PutW B W0 W0 G n (.slice none 0 0) (.slice none 0 0) (.slice none 0 0) [] [] [] :=
 ⟨fun _ _ _ => rfl,hB,h.lt,h,World.ownsRow_nil _ _ _ _,World.ownsRow_nil _ _ _ _,World.ownsRow_nil _ _ _ _,fun g hg => (by cases hg),Below.refl _ _⟩
theorem PutW.size (h:PutW B W0 wr G n vS vE vA S E A):W0.heap.size≤wr.heap.size:=h.bel.size
theorem PutW.blk (h:PutW B W0 wr G n vS vE vA S E A) {g:Nat} {T:TypeId} {cs:Array Value} (hb:Blk W0 g T cs) (hg:g≠G):Blk wr g T cs:=(h.keep g hb.lt hg).trans hb
theorem PutW.call (h:PutW B W0 wr G n vS vE vA S E A) (hb:Below wr.heap.size wr w'):PutW B W0 w' G n vS vE vA S E A :=
 have hz:=h.size
 have hg:=h.gG
 have hB:=h.gB
 ⟨fun i hi hne => (hb.block i (by omega)).trans (h.keep i hi hne),h.gB,h.gG,h.t.below hb (by omega),own_below h.oS hb,own_below h.oE hb,own_below h.oA hb,h.ap,h.bel.trans (hb.mono (by omega))⟩
theorem PutW.kept (h:PutW B W0 wr G n vS vE vA S E A) {v:Value} (hv:∀ g,v.ownBlock = some g→W0.heap.size≤g) (hg:wr.grownBy w' v.ownBlock) (i:Nat) (u:Value) :
    (∀ j,j < W0.heap.size→j≠G→(w'.setCell ⟨G,i,none⟩ u).heap[j]? = W0.heap[j]?)∧Below B W0 (w'.setCell ⟨G,i,none⟩ u):=by
 have hz:=h.size
 have hgG:=h.gG
 have hB:=h.gB
 refine ⟨fun j hj hne => ?_,(h.bel.grown hg (by omega) (fun k hk => by have:=hv k hk; omega)).setCell (p:=⟨G,i,none⟩) (by show B≤G; omega) _⟩
 rw [Below.heap_setCell _ _ _ _ (show j≠G from hne),hg.block j (by omega) (fun e => by have:=hv j e.symm; omega)]
 exact h.keep j hj hne
theorem PutW.putA (h:PutW B W0 wr G n vS vE vA S E A) {v':Value} {A':List Ar} (hg:wr.grownBy w' vA.ownBlock) (ho:w'.ownsRow W0.heap.size 61 8 v' A'.length (encs encA A')) :
    PutW B W0 (w'.setCell ⟨G,3,none⟩ v') G n vS vE v' S E A':=by
 have kt:=blk_keep h.t hg (own_blk h.oA h.t (by decide))
 have kS:=h.oS.kept hg (apart_types h.oS h.oA (by decide)).or_none
 have kE:=h.oE.kept hg (apart_types h.oE h.oA (by decide)).or_none
 obtain ⟨k1,k2⟩:=h.kept (fun g e => (own_lt h.oA g e).1) hg 3 v'
 exact ⟨k1,h.gB,h.gG,kt.set_ 3 v',own_setCell kS (own_blk kS kt (by decide)) _,own_setCell kE (own_blk kE kt (by decide)) _,own_setCell ho (own_blk ho kt (by decide)) _,h.ap,k2⟩
theorem PutW.putE (h:PutW B W0 wr G n vS vE vA S E A) {v':Value} {E':List Tp} (hg:wr.grownBy w' vE.ownBlock) (ho:w'.ownsRow W0.heap.size 54 2 v' E'.length (encs encT E')) (hl:v'.ownBlock = vE.ownBlock∨v'.ownBlock = some wr.heap.size) :
    PutW B W0 (w'.setCell ⟨G,2,none⟩ v') G n vS v' vA S E' A:=by
 have kt:=blk_keep h.t hg (own_blk h.oE h.t (by decide))
 have kS:=h.oS.kept hg h.ap.or_none
 have kA:=h.oA.kept hg (apart_types h.oA h.oE (by decide)).or_none
 obtain ⟨k1,k2⟩:=h.kept (fun g e => (own_lt h.oE g e).1) hg 2 v'
 refine ⟨k1,h.gB,h.gG,kt.set_ 2 v',own_setCell kS (own_blk kS kt (by decide)) _,own_setCell ho (own_blk ho kt (by decide)) _,own_setCell kA (own_blk kA kt (by decide)) _,fun g hg1 hg2 => ?_,k2⟩
 rcases hl with e | e
 ·exact h.ap g hg1 (by rw [← e]; exact hg2)
 ·rw [e] at hg2
  have:=(own_lt h.oS g hg1).2
  have:=Option.some.inj hg2
  omega
theorem PutW.putS (h:PutW B W0 wr G n vS vE vA S E A) {v':Value} {S':List Tp} (hg:wr.grownBy w' vS.ownBlock) (ho:w'.ownsRow W0.heap.size 54 2 v' S'.length (encs encT S')) (hl:v'.ownBlock = vS.ownBlock∨v'.ownBlock = some wr.heap.size) :
    PutW B W0 (w'.setCell ⟨G,1,none⟩ v') G n v' vE vA S' E A:=by
 have kt:=blk_keep h.t hg (own_blk h.oS h.t (by decide))
 have kE:=h.oE.kept hg h.ap.symm.or_none
 have kA:=h.oA.kept hg (apart_types h.oA h.oS (by decide)).or_none
 obtain ⟨k1,k2⟩:=h.kept (fun g e => (own_lt h.oS g e).1) hg 1 v'
 refine ⟨k1,h.gB,h.gG,kt.set_ 1 v',own_setCell ho (own_blk ho kt (by decide)) _,own_setCell kE (own_blk kE kt (by decide)) _,own_setCell kA (own_blk kA kt (by decide)) _,fun g hg1 hg2 => ?_,k2⟩
 rcases hl with e | e
 ·exact h.ap g (by rw [← e]; exact hg1) hg2
 ·rw [e] at hg1
  have:=(own_lt h.oE g hg2).2
  have:=Option.some.inj hg1
  omega
theorem PutW.fst {A1 A2 A3:Option Addr} {k1 k2 k3 c1 c2 c3:Nat}
    (h:PutW B W0 wr G n (.slice A1 k1 c1) (.slice A2 k2 c2) (.slice A3 k3 c3) S E A) (hn:-9223372036854775808≤n∧n≤9223372036854775807)
    (hS:∀ x∈S,TpW x) (hE:∀ x∈E,TpW x) (hA:∀ x∈A,ArW x):FstAt wr wr.heap.size ⟨n,S,E,A⟩ (.agg #[.int .i64 n,.slice A1 k1 c1,.slice A2 k2 c2,.slice A3 k3 c3]):=by
 obtain ⟨B1,d1,e1,u1,m1,_⟩:=own_form h.oS
 obtain ⟨B2,d2,e2,u2,m2,_⟩:=own_form h.oE
 obtain ⟨B3,d3,e3,u3,m3,_⟩:=own_form h.oA
 injection e1 with e1 f1 g1
 injection e2 with e2 f2 g2
 injection e3 with e3 f3 g3
 subst e1 f1 g1 e2 f2 g2 e3 f3 g3
 exact ⟨A1,c1,A2,c2,A3,c3,rfl,u1,u2,u3,m1,m2,m3,hn.1,hn.2,Reads.of_own h.oS,hS,Reads.of_own h.oE,hE,Reads.of_own h.oA,hA⟩
end
end Go.Proofs.YtcondkihpmmnnaaGreatDoor
namespace Go.Proofs.YtcondkihpmmnnaaGreatDoor
open Go.RowKit Go.Sort
def FewB (w:World) (e:Ending) (w':World):Prop:=∃ b,e = .returned (.bool b)∧Below w.heap.size w w'
set_option maxRecDepth 100000 in
set_option maxHeartbeats 4000000 in
theorem few15_any (t:Fs) (v:Value) (B:Nat) (w:World) (HS:FstAt w B t v) (hB:B≤w.heap.size) :
    Calls Tryz.prog 67 #[v] w (FewB w):=by
 obtain ⟨A1,c1,A2,c2,A3,c3,rfl,l1,l2,l3,m1,m2,m3,hn1,hn2,R1,W1,R2,W2,R3,W3⟩:=HS
 have HR1:=Lib.hid R1
 have HR2:=Lib.hid R2
 have HR3:=Lib.hid R3
 have HP:=Lib.hid (fun (b:Bool) (W:World) (h:Below w.heap.size w W) => show FewB w (.returned (.bool b)) W from ⟨b,rfl,h⟩)
 clear R1 R2 R3 W1 W2 W3
 have K:=Blk.new w 32 #[.int .i64 t.n,.slice A1 t.starts.length c1,.slice A2 t.ends.length c2,.slice A3 t.arcs.length c3]
 have LB:=(Below.refl w.heap.size w).alloc (Nat.le_refl _) (.cells #[.int .i64 t.n,.slice A1 t.starts.length c1,.slice A2 t.ends.length c2,.slice A3 t.arcs.length c3] 32)
 unfold maxLen at *
 generalize t.n = tn at *
 generalize t.starts.length = n1 at *
 generalize t.ends.length = n2 at *
 generalize t.arcs.length = n3 at *
 have f0:=K.cell 0
 have f1:=K.cell 1
 have f2:=K.cell 2
 have f3:=K.cell 3
 have HK:=Lib.hid (And.intro K LB)
 clear K LB
 go_enter Tryz.func67,Tryz.ntmps67
 go_wp2
 clear f0 f1 f2 f3
 go_loopw [3,4] (fun a i wr => ∃ (m:Int) (k:Nat),k≤n1∧i = .int .i64 (k:Int)∧a = .int .i64 m∧Blk wr w.heap.size 32 #[.int .i64 tn,.slice A1 n1 c1,.slice A2 n2 c2,.slice A3 n3 c3]∧Below w.heap.size w wr) (fun _ i _ => n1 - (intOf i).toNat)
 case atStart => exact ⟨_,0,Nat.zero_le _,rfl,rfl,HK.out.1,HK.out.2⟩
 case round =>
  clear HK
  obtain ⟨m,k,hk,rfl,rfl,hK,hb⟩:=hrel
  have f0:=hK.cell 0
  have f1:=hK.cell 1
  have f2:=hK.cell 2
  have f3:=hK.cell 3
  have HK:=Lib.hid (And.intro hK hb)
  by_cases hgo:k < n1∧m≤60
  ·obtain ⟨hlt,h60⟩:=hgo
   have hi1:(0:Int)≤(k:Int):=by omega
   have hi2:(k:Int) < (n1:Int):=by omega
   obtain ⟨g3,o3,rfl,hg3,a0,a1⟩:=tip_cell (HR1.out.below (hb.mono hB)) k hlt
   generalize (t.starts.getD k tp0).out = x at *
   clear hK hb
   go_wp2
   go_roundw
   case rel => exact ⟨_,k + 1,by omega,by go_num,rfl,HK.out.1,HK.out.2⟩
   case measure => simp [intOf]; omega
  ·have hex:(¬ k < n1)∨(k < n1∧¬ m≤60):=by omega
   clear hK hb hgo
   rcases hex with hlt | ⟨hlt,h60⟩
   all_goals
    go_wp2
    clear f0 f1 f2 f3 hlt
    try clear h60
    go_loopw [3,5] (fun a i wr => ∃ (m:Int) (k:Nat),k≤n2∧i = .int .i64 (k:Int)∧a = .int .i64 m∧Blk wr w.heap.size 32 #[.int .i64 tn,.slice A1 n1 c1,.slice A2 n2 c2,.slice A3 n3 c3]∧Below w.heap.size w wr) (fun _ i _ => n2 - (intOf i).toNat)
    case atStart => exact ⟨_,0,Nat.zero_le _,rfl,rfl,HK.out.1,HK.out.2⟩
    case round =>
     clear HK
     obtain ⟨m,k,hk,rfl,rfl,hK,hb⟩:=hrel
     have f0:=hK.cell 0
     have f1:=hK.cell 1
     have f2:=hK.cell 2
     have f3:=hK.cell 3
     have HK:=Lib.hid (And.intro hK hb)
     by_cases hgo:k < n2∧m≤60
     ·obtain ⟨hlt,h60⟩:=hgo
      have hi1:(0:Int)≤(k:Int):=by omega
      have hi2:(k:Int) < (n2:Int):=by omega
      obtain ⟨g3,o3,rfl,hg3,a0,a1⟩:=tip_cell (HR2.out.below (hb.mono hB)) k hlt
      generalize (t.ends.getD k tp0).out = x at *
      clear hK hb
      go_wp2
      go_roundw
      case rel => exact ⟨_,k + 1,by omega,by go_num,rfl,HK.out.1,HK.out.2⟩
      case measure => simp [intOf]; omega
     ·have hex:(¬ k < n2)∨(k < n2∧¬ m≤60):=by omega
      clear hK hb hgo
      rcases hex with hlt | ⟨hlt,h60⟩
      all_goals
       go_wp2
       clear f0 f1 f2 f3 hlt
       try clear h60
       go_loopw [3,6] (fun a i wr => ∃ (m:Int) (k:Nat),k≤n3∧i = .int .i64 (k:Int)∧a = .int .i64 m∧Blk wr w.heap.size 32 #[.int .i64 tn,.slice A1 n1 c1,.slice A2 n2 c2,.slice A3 n3 c3]∧Below w.heap.size w wr) (fun _ i _ => n3 - (intOf i).toNat)
       case atStart => exact ⟨_,0,Nat.zero_le _,rfl,rfl,HK.out.1,HK.out.2⟩
       case round =>
        clear HK
        obtain ⟨m,k,hk,rfl,rfl,hK,hb⟩:=hrel
        have f0:=hK.cell 0
        have f1:=hK.cell 1
        have f2:=hK.cell 2
        have f3:=hK.cell 3
        have HK:=Lib.hid (And.intro hK hb)
        by_cases hgo:k < n3∧m≤60
        ·obtain ⟨hlt,h60⟩:=hgo
         have hi1:(0:Int)≤(k:Int):=by omega
         have hi2:(k:Int) < (n3:Int):=by omega
         obtain ⟨g3,o3,rfl,hg3,a0,a1,a2,a3,a4,a5,a6,a7⟩:=arc_cell (HR3.out.below (hb.mono hB)) k hlt
         generalize (t.arcs.getD k ar0).out = x at *
         clear hK hb
         go_wp2
         go_roundw
         case rel => exact ⟨_,k + 1,by omega,by go_num,rfl,HK.out.1,HK.out.2⟩
         case measure => simp [intOf]; omega
        ·have hex:(¬ k < n3)∨(k < n3∧¬ m≤60):=by omega
         clear hK hb hgo
         rcases hex with hlt | ⟨hlt,h60⟩
         ·by_cases d1:m≤60
          ·by_cases d2:tn≤20
           ·go_wp2
            exact bodyPost_ret (v:=.bool true) (by simp [results,Tryz.results67,go_sem]) rfl (HP.out _ _ HK.out.2)
           ·by_cases d3:(1024:Int) < tn
            ·go_wp2
             exact bodyPost_ret (v:=.bool true) (by simp [results,Tryz.results67,go_sem]) rfl (HP.out _ _ HK.out.2)
            ·go_wp2
             exact bodyPost_ret (v:=.bool false) (by simp [results,Tryz.results67,go_sem]) rfl (HP.out _ _ HK.out.2)
          ·go_wp2
           exact bodyPost_ret (v:=.bool false) (by simp [results,Tryz.results67,go_sem]) rfl (HP.out _ _ HK.out.2)
         ·go_wp2
          exact bodyPost_ret (v:=.bool false) (by simp [results,Tryz.results67,go_sem]) rfl (HP.out _ _ HK.out.2)
end Go.Proofs.YtcondkihpmmnnaaGreatDoor
namespace Go.Proofs.YtcondkihpmmnnaaGreatDoor
open Go.RowKit Go.Sort
set_option maxRecDepth 100000 in
set_option maxHeartbeats 4000000 in
theorem bools_eq (L:List Bool) (A1 A2:Option Addr) (n c1 c2 B:Nat) (w:World) (R1:Reads w B 1 A1 n (L.map Value.bool)) (R2:Reads w B 1 A2 n (L.map Value.bool)) (hB:B≤w.heap.size) (hn:n≤100000) :
    Calls Tryz.prog 38 #[.slice A1 n c1,.slice A2 n c2] w (Gives (.bool true) w):=by
 have H1:=Lib.hid (fun (k:Nat) (hk:k < n) => cell_at (d:=false) R1 k hk)
 have H2:=Lib.hid (fun (k:Nat) (hk:k < n) => cell_at (d:=false) R2 k hk)
 clear R1 R2
 go_enter Tryz.func38,Tryz.ntmps38
 go_wp2
 go_loopw [5] (fun i wr => ∃ k:Nat,k≤n∧i = .int .i64 (k:Int)∧Below w.heap.size w wr) (fun i _ => n - (intOf i).toNat)
 case atStart => exact ⟨0,Nat.zero_le _,rfl,Below.refl _ _⟩
 case round =>
  obtain ⟨k,hk,rfl,hb⟩:=hrel
  by_cases hlt:k < n
  ·have hi1:(0:Int)≤(k:Int):=by omega
   have hi2:(k:Int) < (n:Int):=by omega
   obtain ⟨g1,o1,rfl,hg1,r1⟩:=H1.out k hlt
   obtain ⟨g2,o2,rfl,hg2,r2⟩:=H2.out k hlt
   have x1:=(hb.cell (p:=⟨g1,o1 + k,none⟩) (by show g1 < _; omega)).trans r1
   have x2:=(hb.cell (p:=⟨g2,o2 + k,none⟩) (by show g2 < _; omega)).trans r2
   have HB:=Lib.hid hb
   generalize L.getD k false = x at *
   clear hb r1 r2
   have y1:=cell_regrown x1
   have y2:=cell_regrown x2
   go_wp2
   refine wp_region_quiet_below (by kernel_rfl) (by kernel_rfl) ?_
   repeat (go_big_quiet_step (fail))
   refine wpQuiet_nil ?_
   intro w6 hw6
   have HB6:=Lib.hid (HB.out.trans ((below_of hw6).mono HB.out.size))
   clear hw6 x1 x2 y1 y2
   go_wp2
   go_roundw
   case rel => exact ⟨k + 1,by omega,by go_num,HB6.out⟩
   case measure => simp [intOf]; omega
  ·obtain rfl:n = k:=by omega
   have HB:=Lib.hid (show Gives (.bool true) w (.returned (.bool true)) wr from ⟨rfl,hb⟩)
   clear hb
   go_wp2
   exact bodyPost_ret (v:=.bool true) (by simp [results,Tryz.results38,go_sem]) rfl HB.out
set_option maxRecDepth 100000 in
set_option maxHeartbeats 4000000 in
theorem texts_eq (L:List ByteArray) (A1 A2:Option Addr) (n c1 c2 B:Nat) (w:World) (R1:Reads w B 1 A1 n (L.map Value.string)) (R2:Reads w B 1 A2 n (L.map Value.string)) (hB:B≤w.heap.size) (hn:n≤100000) :
    Calls Tryz.prog 39 #[.slice A1 n c1,.slice A2 n c2] w (Gives (.bool true) w):=by
 have H1:=Lib.hid (fun (k:Nat) (hk:k < n) => cell_at (d:=ByteArray.empty) R1 k hk)
 have H2:=Lib.hid (fun (k:Nat) (hk:k < n) => cell_at (d:=ByteArray.empty) R2 k hk)
 clear R1 R2
 go_enter Tryz.func39,Tryz.ntmps39
 go_wp2
 go_loopw [5] (fun i wr => ∃ k:Nat,k≤n∧i = .int .i64 (k:Int)∧Below w.heap.size w wr) (fun i _ => n - (intOf i).toNat)
 case atStart => exact ⟨0,Nat.zero_le _,rfl,Below.refl _ _⟩
 case round =>
  obtain ⟨k,hk,rfl,hb⟩:=hrel
  by_cases hlt:k < n
  ·have hi1:(0:Int)≤(k:Int):=by omega
   have hi2:(k:Int) < (n:Int):=by omega
   obtain ⟨g1,o1,rfl,hg1,r1⟩:=H1.out k hlt
   obtain ⟨g2,o2,rfl,hg2,r2⟩:=H2.out k hlt
   have x1:=(hb.cell (p:=⟨g1,o1 + k,none⟩) (by show g1 < _; omega)).trans r1
   have x2:=(hb.cell (p:=⟨g2,o2 + k,none⟩) (by show g2 < _; omega)).trans r2
   have HB:=Lib.hid hb
   generalize L.getD k ByteArray.empty = x at *
   clear hb r1 r2
   have y1:=cell_regrown x1
   have y2:=cell_regrown x2
   go_wp2
   refine wp_region_quiet_below (by kernel_rfl) (by kernel_rfl) ?_
   repeat (go_big_quiet_step (fail))
   refine wpQuiet_nil ?_
   intro w6 hw6
   have HB6:=Lib.hid (HB.out.trans ((below_of hw6).mono HB.out.size))
   clear hw6 x1 x2 y1 y2
   go_wp2
   go_roundw
   case rel => exact ⟨k + 1,by omega,by go_num,HB6.out⟩
   case measure => simp [intOf]; omega
  ·obtain rfl:n = k:=by omega
   have HB:=Lib.hid (show Gives (.bool true) w (.returned (.bool true)) wr from ⟨rfl,hb⟩)
   clear hb
   go_wp2
   exact bodyPost_ret (v:=.bool true) (by simp [results,Tryz.results39,go_sem]) rfl HB.out
set_option maxRecDepth 100000 in
set_option maxHeartbeats 4000000 in
theorem ints_eq (L:List Int) (A1 A2:Option Addr) (n c1 c2 B:Nat) (w:World) (R1:Reads w B 1 A1 n (L.map (Value.int .i64))) (R2:Reads w B 1 A2 n (L.map (Value.int .i64))) (hB:B≤w.heap.size) (hn:n≤100000) :
    Calls Tryz.prog 40 #[.slice A1 n c1,.slice A2 n c2] w (Gives (.bool true) w):=by
 have H1:=Lib.hid (fun (k:Nat) (hk:k < n) => cell_at (d:=0) R1 k hk)
 have H2:=Lib.hid (fun (k:Nat) (hk:k < n) => cell_at (d:=0) R2 k hk)
 clear R1 R2
 go_enter Tryz.func40,Tryz.ntmps40
 go_wp2
 go_loopw [5] (fun i wr => ∃ k:Nat,k≤n∧i = .int .i64 (k:Int)∧Below w.heap.size w wr) (fun i _ => n - (intOf i).toNat)
 case atStart => exact ⟨0,Nat.zero_le _,rfl,Below.refl _ _⟩
 case round =>
  obtain ⟨k,hk,rfl,hb⟩:=hrel
  by_cases hlt:k < n
  ·have hi1:(0:Int)≤(k:Int):=by omega
   have hi2:(k:Int) < (n:Int):=by omega
   obtain ⟨g1,o1,rfl,hg1,r1⟩:=H1.out k hlt
   obtain ⟨g2,o2,rfl,hg2,r2⟩:=H2.out k hlt
   have x1:=(hb.cell (p:=⟨g1,o1 + k,none⟩) (by show g1 < _; omega)).trans r1
   have x2:=(hb.cell (p:=⟨g2,o2 + k,none⟩) (by show g2 < _; omega)).trans r2
   have HB:=Lib.hid hb
   generalize L.getD k 0 = x at *
   clear hb r1 r2
   have y1:=cell_regrown x1
   have y2:=cell_regrown x2
   go_wp2
   refine wp_region_quiet_below (by kernel_rfl) (by kernel_rfl) ?_
   repeat (go_big_quiet_step (fail))
   refine wpQuiet_nil ?_
   intro w6 hw6
   have HB6:=Lib.hid (HB.out.trans ((below_of hw6).mono HB.out.size))
   clear hw6 x1 x2 y1 y2
   go_wp2
   go_roundw
   case rel => exact ⟨k + 1,by omega,by go_num,HB6.out⟩
   case measure => simp [intOf]; omega
  ·obtain rfl:n = k:=by omega
   have HB:=Lib.hid (show Gives (.bool true) w (.returned (.bool true)) wr from ⟨rfl,hb⟩)
   clear hb
   go_wp2
   exact bodyPost_ret (v:=.bool true) (by simp [results,Tryz.results40,go_sem]) rfl HB.out
end Go.Proofs.YtcondkihpmmnnaaGreatDoor
namespace Go.Proofs.YtcondkihpmmnnaaGreatDoor
open Go.ChangeShapes Go.WideShapes Go.ChangeAt Go.RowKit
open Go.ChangeMaps (open_string shut_string)
theorem ownNone:ownKnob Tryz.prog.godebug = none:=by kernel_rfl
theorem laidOut:laidOutB Tryz.prog = true:=by kernel_rfl
section
variable {H:Type} {enc:TypeId × Value→H} {P:Program}
theorem trodAll_stays (hl:laidOutB P = true) {W W':World} (hb:Below W.heap.size W W') {sp:Nat→Bool} :
    ∀ {ts:List TypeId} {vs:List Value} {ds:List (DataW H)} {ps:List MemPlace},(ts.all fun t => P.readableRec t && decide (t < P.types.size)) = true →
     DataW.TrodAll enc P W 0 (fun _ => true) true ts vs ds ps→(∀ x∈ps,x.block < W.heap.size)→(∀ x∈ps,sp x.block = true)→DataW.TrodAll enc P W' 0 sp true ts vs ds ps
 | [],[],[],_,_,h,_,_ => h
 | t :: ts,v :: vs,d :: ds,ps,hr,h,hlt,hsp => by
  obtain ⟨p,q,h1,h2,rfl⟩:=h
  simp only [List.all_cons,Bool.and_eq_true,decide_eq_true_eq] at hr
  exact ⟨p,q,WideElems.Trod_stays hl hr.1.1 hr.1.2 h1 (fun x hx => hb.same (hlt x (List.mem_append_left _ hx))) (fun x hx => hsp x (List.mem_append_left _ hx)),
   trodAll_stays hl hb hr.2 h2 (fun x hx => hlt x (List.mem_append_right _ hx)) (fun x hx => hsp x (List.mem_append_right _ hx)),rfl⟩
 | [],_ :: _,_,_,_,h,_,_ => by simp [DataW.TrodAll] at h
 | [],[],_ :: _,_,_,h,_,_ => by simp [DataW.TrodAll] at h
 | _ :: _,[],_,_,_,h,_,_ => by simp [DataW.TrodAll] at h
 | _ :: _,_ :: _,[],_,_,h,_,_ => by simp [DataW.TrodAll] at h
theorem post_of_below {f:Func} {s:ChangeSpec} {apart fresh handsOn again:Bool} {W W':World} {args:Array Value} {v:Value} {ds gs:List (DataW H)} {before pa pv:List MemPlace}
    (hW:DataW.Whole enc P f.params.toList s.vars apart W args.toList ds gs before)
    (hres:∀ (b:Nat) (sp:Nat→Bool) (hd:Bool),DataW.TrodAll enc P W' b sp hd f.resultTypes.toList (v.resultList f.resultTypes.size) (s.fn H (ds ++ gs)).results [])
    (hargs:∀ sp:Nat→Bool,(∀ p∈before,sp p.block = true)→DataW.TrodAll enc P W' 0 sp true f.params.toList args.toList (s.fn H (ds ++ gs)).args pa)
    (hvars:∀ sp:Nat→Bool,(∀ p∈before,sp p.block = true)→DataW.TrodVars enc P W' sp s.vars (s.fn H (ds ++ gs)).vars pv)
    (hps:before = pa ++ pv) (hb:Below W.heap.size W W')
    (hok:∀ (j:Nat) (t:TypeId) (r:Value),f.resultTypes[j]? = some t→(v.resultList f.resultTypes.size)[j]? = some r→Value.okWide P W' .any 0 t r) :
    s.post enc P f apart fresh handsOn again W args v W':=by
 have hlt:∀ p∈before,p.block < W.heap.size:=fun p hp => hW.lt p hp
 have hold:∀ p∈before,(fun b => decide (b < W.heap.size)) p.block = true:=fun p hp => by simpa using hlt p hp
 refine ⟨ds,gs,before,[],pa,pv,hW,hres _ _ _,hargs _ hold,hvars _ hold,World.keptBut_mono (fun p hp => ⟨hp,?_⟩) (hb.frame (·∈before)),fun _ => ?_⟩
 ·rw [hps,List.mem_append] at hp
  exact Or.inr hp
 ·obtain ⟨_,_,_,_,_,hz,hn⟩:=hW
  refine ⟨hok,_,_,([] ++ pa) ++ pv,⟨[] ++ pa,pv,trodAll_append (hargs _ (fun _ _ => rfl)) (hres _ _ _),hvars _ (fun _ _ => rfl),rfl,?_,?_⟩,?_⟩
  ·intro b off hp
   have hin:MemPlace.cell b off∈before:=by rw [hps]; simpa using hp
   rw [hb.frozen (hlt _ hin)]
   exact hz b off hin
  ·intro ha
   have:=hn ha
   rw [hps] at this
   simpa using this
  ·intro p hp _
   rw [hps]
   simpa using hp
end
section
variable {H:Type} {enc:TypeId × Value→H} {P:Program}
theorem row_block {a:Addr} {n:Nat} {B:Nat} (h:∀ x∈MemPlace.row a n,x.block < B) (hn:0 < n):a.block < B:=by
 have:=h (.cell a.block (a.off + 0)) (List.mem_map.2 ⟨0,by simpa using hn,rfl⟩)
 exact this
end
end Go.Proofs.YtcondkihpmmnnaaGreatDoor
