/- Lemmas, part 1 of 39. No condition. -/
import Derived.Test.YtcondkihpmmnnaaGreatDoorProg
import Derived.WalkKit
import Derived.WalkSpells
import Derived.WalkLawsBesides
import Derived.Deep.QuietTactic
import Derived.BigQuiet
import Derived.Lib.Hide
import Derived.Lib.QuietBelow
import Derived.Maps.AppendAt
import Derived.Deep.AppendLies
import Derived.OwnWalk
import Derived.RegionTactic
import Derived.Deep.Draws
import Derived.Laws.OwnMore
import Derived.Laws.Rows
import Derived.Laws.BitsAllLaws
namespace Go.Proofs.YtcondkihpmmnnaaGreatDoor
open Go.RowKit Go.Sort
def Gives (v:Value) (w:World) (e:Ending) (w':World):Prop:=e = .returned v∧Below w.heap.size w w'
theorem below_drewN {B:Nat} {a w:World} (h:Below B a w) (n:Nat):Below B a (w.drewN n):=⟨h.os,h.tape,h.output,h.size,h.block⟩
theorem below_then {a b c:World} (h:Below a.heap.size a b) (k:Below b.heap.size b c):Below a.heap.size a c :=
 h.trans (k.mono h.size)
theorem gives_quiet {P:Program} {f:FuncId} {args:Array Value} {w:World} {d:Nat} {os:Array Obj} {v:Value}
    (h:Calls P f args (grow (redrawn w d) os) (Gives v (grow (redrawn w d) os))):Calls P f args (grow (redrawn w d) os) fun e w'' => e = .returned v∧∃ p:Regrown,w'' = grow (redrawn w p.d) p.os :=
 Calls.regrown_of (h.mono fun _ _ h => h)
theorem below_of {w w':World} (h:∃ p:Regrown,w' = grow (redrawn w p.d) p.os):Below w.heap.size w w':=by
 obtain ⟨p,rfl⟩:=h
 exact below_regrown _ _ _
theorem get_some (a:ByteArray) (k:Nat) (h:k < a.size):a.data.toList[k]? = some a[k]:=by
 rw [List.getElem?_eq_getElem (by simpa using h)]; rfl
theorem u8_eq {a b:UInt8} (h:(a.toNat:Int) = b.toNat):a = b:=UInt8.toNat_inj.1 (by omega)
theorem block_of_add (a:Addr) (n:Nat):(a.add n).block = a.block:=by unfold Addr.add; split <;> rfl
def Reads (w:World) (B size:Nat) (A:Option Addr) (n:Nat) (xs:List Value):Prop :=
 xs.length = n * size∧(0 < n→∃ ad,A = some ad∧ad.block < B∧∀ j u,xs[j]? = some u→w.cell? (ad.add j) = some u)
section
variable {w w':World} {B B' size n:Nat} {A:Option Addr} {xs:List Value}
theorem Reads.none_:Reads w B size A 0 []:=⟨by simp,fun h => absurd h (by omega)⟩
theorem Reads.at_ {k:Nat} (h:Reads w B 1 A n xs) (hk:k < n):∃ ad u,A = some ad∧ad.block < B∧xs[k]? = some u∧w.cell? (ad.add k) = some u:=by
 obtain ⟨ad,e,hb,hc⟩:=h.2 (by omega)
 have hl:k < xs.length:=by have:=h.1; omega
 exact ⟨ad,xs[k],e,hb,List.getElem?_eq_getElem hl,hc k _ (List.getElem?_eq_getElem hl)⟩
theorem Reads.keep (h:Reads w B size A n xs) (hk:∀ p:Addr,p.block < B→w'.cell? p = w.cell? p):Reads w' B size A n xs :=
 ⟨h.1,fun hn => by
  obtain ⟨ad,e,hb,hc⟩:=h.2 hn
  exact ⟨ad,e,hb,fun j u hu => (hk _ (by rw [block_of_add]; exact hb)).trans (hc j u hu)⟩⟩
theorem Reads.more (h:Reads w B size A n xs) (hB:B≤B'):Reads w B' size A n xs :=
 ⟨h.1,fun hn => by
  obtain ⟨ad,e,hb,hc⟩:=h.2 hn
  exact ⟨ad,e,by omega,hc⟩⟩
theorem Reads.below (h:Reads w B size A n xs) (hb:Below B w w'):Reads w' B size A n xs:=h.keep fun _ hp => hb.cell hp
theorem Reads.drew (h:Reads w B size A n xs):Reads w.drew B size A n xs:=h
theorem Reads.drewN (h:Reads w B size A n xs) (k:Nat):Reads (w.drewN k) B size A n xs:=h
theorem Reads.alloc (h:Reads w B size A n xs) (hB:B≤w.heap.size) (o:Obj):Reads (w.alloc o) B size A n xs:=h.keep fun p hp => World.cell?_alloc_lt w o p (by omega)
theorem Reads.setCell (h:Reads w B size A n xs) {p:Addr} (hB:B≤p.block) (u:Value):Reads (w.setCell p u) B size A n xs :=
 h.keep fun q hq => World.cell?_setCell_other w p q u (fun e => by subst e; omega)
theorem Reads.grown (h:Reads w B size A n xs) {row:Option Nat} (hg:w.grownBy w' row) (hB:B≤w.heap.size) (hr:∀ g,row = some g→B≤g):Reads w' B size A n xs :=
 h.keep fun p hp => World.cell?_of_block (hg.block p.block (by omega) (fun e => by have:=hr _ e.symm; omega))
theorem Reads.of_own {base:Nat} {e:TypeId} {c:Nat} (h:w.ownsRow base e size (.slice A n c) n xs):Reads w w.heap.size size A n xs:=by
 refine ⟨h.1,fun hn => ?_⟩
 obtain ⟨g,cap,hv,_,hlt⟩:=h.form hn
 have hA:A = some ⟨g,0,none⟩:=by injection hv
 subst hA
 exact ⟨_,rfl,hlt,h.cells (g:=g) rfl⟩
end
def Blk (w:World) (g:Nat) (t:TypeId) (cs:Array Value):Prop:=w.heap[g]? = some (.cells cs t (0,0))
section
variable {w w':World} {g:Nat} {t:TypeId} {cs:Array Value}
theorem Blk.lt (h:Blk w g t cs):g < w.heap.size:=by
 rcases Nat.lt_or_ge g w.heap.size with hlt | hge
 ·exact hlt
 ·unfold Blk at h; rw [Array.getElem?_eq_none hge] at h; cases h
theorem Blk.cell (h:Blk w g t cs) (i:Nat):w.cell? ⟨g,i,none⟩ = cs[i]?:=cell_of_row w g i cs t (0,0) h
theorem Blk.frozen (h:Blk w g t cs) (i:Nat):w.frozen? ⟨g,i,none⟩ = false:=by
 unfold Blk at h
 simp [World.frozen?,h]
theorem Blk.new (w:World) (t:TypeId) (cs:Array Value):Blk (w.alloc (.cells cs t)) w.heap.size t cs:=heap_alloc_new w _
theorem Blk.drew (h:Blk w g t cs):Blk w.drew g t cs:=h
theorem Blk.drewN (h:Blk w g t cs) (n:Nat):Blk (w.drewN n) g t cs:=h
theorem Blk.alloc (h:Blk w g t cs) (o:Obj):Blk (w.alloc o) g t cs:=(Below.heap_alloc w o g h.lt).trans h
theorem Blk.set_ (h:Blk w g t cs) (i:Nat) (u:Value):Blk (w.setCell ⟨g,i,none⟩ u) g t (cs.setIfInBounds i u):=by
 unfold Blk at h ⊢
 simp [World.setCell,Array.getElem?_modify,h]
theorem Blk.far (h:Blk w g t cs) {p:Addr} (hp:g≠p.block) (u:Value):Blk (w.setCell p u) g t cs:=(Below.heap_setCell w p u g hp).trans h
theorem Blk.below {B:Nat} (h:Blk w g t cs) (hb:Below B w w') (hg:g < B):Blk w' g t cs:=(hb.block g hg).trans h
theorem Blk.grown {row:Option Nat} (h:Blk w g t cs) (hb:w.grownBy w' row) (hg:some g≠row):Blk w' g t cs:=(hb.block g h.lt hg).trans h
theorem Blk.ne_ {g':Nat} {t':TypeId} {cs':Array Value} (h:Blk w g t cs) (h':Blk w g' t' cs') (hne:t≠t'):g≠g':=by
 rintro rfl
 unfold Blk at h h'
 rw [h] at h'
 injection h' with h'
 injection h' with _ ht
 exact hne ht
theorem own_blk_ne {base:Nat} {e:TypeId} {size n:Nat} {v:Value} {xs:List Value} (h:w.ownsRow base e size v n xs) (hg:Blk w g t cs) (hne:e≠t):v.ownBlock≠some g:=by
 rcases h.2 with ⟨rfl,_⟩ | ⟨g',cap,cur,rfl,_,hh,_⟩
 ·simp [Value.ownBlock]
 ·intro he
  have:g' = g:=by simpa [Value.ownBlock] using he
  subst this
  exact Blk.ne_ (t:=e) hh hg hne rfl
end
section
variable {P:Program} (w:World)
theorem run_append_of_nil (base:Nat) (t ty e:TypeId) (i:TypeInfo) (size:Nat) (ht:P.underlying t = some (.slice e)) (hi:P.info? e = some i)
    (v:Value) (n:Nat) (xs:List Value) (hown:w.ownsRow base e size v n xs) (c:Nat):(Builtin.append_ #[t,t] ty #[v,.slice none 0 c]).run P w = .ok v w:=by
 rcases hown.2 with ⟨rfl,rfl⟩ | ⟨g,cap,cur,rfl,_,_,hnc,_⟩
 ·simp [Builtin.append_,run_underlying ht,sizeOf,typeInfo,hi,Builtin.lenOf,Builtin.firstCells]
 ·simp [Builtin.append_,run_underlying ht,sizeOf,typeInfo,hi,Builtin.lenOf,Builtin.firstCells,hnc,storeCells]
theorem run_append_any (base:Nat) (t ty e:TypeId) (i:TypeInfo) (z:Value) (size bytes:Nat) (ht:P.underlying t = some (.slice e)) (hi:P.info? e = some i) (hz:i.zero = some z)
    (hsize:i.size = size) (hby:i.bytes = bytes) (hzs:z.cells.size = size) (hsz:0 < size)
    (v:Value) (n:Nat) (xs:List Value) (hown:w.ownsRow base e size v n xs)
    (B:Nat) (A:Option Addr) (m c:Nat) (news:List Value) (hr:Reads w B size A m news) (h1:∀ u∈news,u.oneCell' = true)
    (h63:n + m≤maxLen) (hbytes:(n + m) * bytes≤140737488355328) (hbase:base≤w.heap.size) :
    ∃ v' w',(Builtin.append_ #[t,t] ty #[v,.slice A m c]).run P w = .ok v' w'∧w'.ownsRow base e size v' (n + m) (xs ++ news)∧w.grownBy w' v.ownBlock ∧
     (v'.ownBlock = v.ownBlock∨v'.ownBlock = some w.heap.size):=by
 rcases A with _ | ad
 ·have hm:m = 0:=by
    rcases Nat.eq_zero_or_pos m with h0 | h0
    ·exact h0
    ·obtain ⟨ad,h,_⟩:=hr.2 h0
     cases h
  subst hm
  have hn:news = []:=List.eq_nil_of_length_eq_zero (by simpa using hr.1)
  subst hn
  exact ⟨v,w,run_append_of_nil w base t ty e i size ht hi v n xs hown c,by simpa using hown,World.grownBy.refl w _,.inl rfl⟩
 ·have hcells:∀ j u,news[j]? = some u→w.cell? (ad.add j) = some u:=by
    intro j u hu
    rcases Nat.eq_zero_or_pos m with h0 | h0
    ·subst h0
     have hn:news = []:=List.eq_nil_of_length_eq_zero (by simpa using hr.1)
     subst hn
     simp at hu
    ·obtain ⟨ad',h,_,hc⟩:=hr.2 h0
     injection h with h
     subst h
     exact hc j u hu
  obtain ⟨v',w',hrun,h2,h3,_,h5⟩:=run_append_own_at (P:=P) w base t ty e i z size bytes ht hi hz hsize hby hzs hsz v n xs hown ad m c news hr.1 hcells h1 h63 hbytes hbase
  exact ⟨v',w',hrun,h2,h3,h5⟩
theorem wp_append_any {o:Oper} {a:Act} {K:Act→World→Prop} {Q:Exit→Act→World→Prop} (s x:Operand) (t:TypeId)
    (ho:o.op = .call { callee:=.builtin .append,args:=#[s,x],argTypes:=#[t,t] })
    (base:Nat) (e:TypeId) (i:TypeInfo) (z:Value) (size bytes:Nat) (ht:P.underlying t = some (.slice e)) (hi:P.info? e = some i) (hz:i.zero = some z)
    (hsize:i.size = size) (hby:i.bytes = bytes) (hzs:z.cells.size = size) (hsz:0 < size)
    (v:Value) (n:Nat) (xs:List Value) (hs:a.eval s = v) (hown:w.ownsRow base e size v n xs)
    (B:Nat) (A:Option Addr) (m c:Nat) (news:List Value) (hx:a.eval x = .slice A m c) (hr:Reads w B size A m news) (h1:∀ u∈news,u.oneCell' = true)
    (h63:n + m≤maxLen) (hbytes:(n + m) * bytes≤140737488355328) (hbase:base≤w.heap.size)
    (h:∀ v' w',w'.ownsRow base e size v' (n + m) (xs ++ news)→w.grownBy w' v.ownBlock→(v'.ownBlock = v.ownBlock∨v'.ownBlock = some w.heap.size)→K (a.put o.dst v') w'):o.wp P a w K Q:=by
 obtain ⟨v',w',hrun,h2,h3,h4⟩:=run_append_any (P:=P) w base t o.type e i z size bytes ht hi hz hsize hby hzs hsz v n xs hown B A m c news hr h1 h63 hbytes hbase
 unfold Oper.wp execOp
 simp only [ho,resolve,invoke,builtin,Sem.run_bind,Sem.run_pure,Result.andThen_ok,List.map_toArray,List.map_cons,List.map_nil,hs,hx,hrun]
 exact h v' w' h2 h3 h4
theorem wpList_append_any {ops:Array Oper} {rest:List Oper} {o:Oper} {a:Act} {Q:Exit→Act→World→Prop} (hgd:o.guard = none) (s x:Operand) (t:TypeId)
    (ho:o.op = .call { callee:=.builtin .append,args:=#[s,x],argTypes:=#[t,t] })
    (base:Nat) (e:TypeId) (i:TypeInfo) (z:Value) (size bytes:Nat) (ht:P.underlying t = some (.slice e)) (hi:P.info? e = some i) (hz:i.zero = some z)
    (hsize:i.size = size) (hby:i.bytes = bytes) (hzs:z.cells.size = size) (hsz:0 < size)
    (v:Value) (n:Nat) (xs:List Value) (hs:a.eval s = v) (hown:w.ownsRow base e size v n xs)
    (B:Nat) (A:Option Addr) (m c:Nat) (news:List Value) (hx:a.eval x = .slice A m c) (hr:Reads w B size A m news) (h1:∀ u∈news,u.oneCell' = true)
    (h63:n + m≤maxLen) (hbytes:(n + m) * bytes≤140737488355328) (hbase:base≤w.heap.size)
    (h:∀ v' w',w'.ownsRow base e size v' (n + m) (xs ++ news)→w.grownBy w' v.ownBlock→(v'.ownBlock = v.ownBlock∨v'.ownBlock = some w.heap.size)→wpList P ops Q rest (a.put o.dst v') w'):wpList P ops Q (o :: rest) a w :=
 wpList_plain hgd fun _ hK => wp_append_any w s x t ho base e i z size bytes ht hi hz hsize hby hzs hsz v n xs hs hown B A m c news hx hr h1 h63 hbytes hbase fun v' w' h2 h3 h4 => hK _ _ (h v' w' h2 h3 h4)
end
end Go.Proofs.YtcondkihpmmnnaaGreatDoor
namespace Go.Proofs.YtcondkihpmmnnaaGreatDoor
open Go.RowKit
def bitsum (g:Nat→Bool):Nat→Nat
 | 0 => 0
 | n + 1 => bitsum g n + (if g n then 2 ^ n else 0)
theorem bitsum_lt (g:Nat→Bool):∀ n,bitsum g n < 2 ^ n
 | 0 => by simp [bitsum]
 | n + 1 => by
  have:=bitsum_lt g n
  unfold bitsum
  rw [Nat.pow_succ]
  split <;> omega
theorem bitsum_testBit (g:Nat→Bool):∀ n k,(bitsum g n).testBit k = (decide (k < n) && g k)
 | 0,k => by simp [bitsum]
 | n + 1,k => by
  have hl:=bitsum_lt g n
  have ih:=bitsum_testBit g n k
  unfold bitsum
  by_cases hg:g n = true
  ·rw [if_pos hg,Nat.add_comm]
   by_cases hk:k = n
   ·subst hk
    rw [Nat.testBit_two_pow_add_eq,Nat.testBit_lt_two_pow hl]
    simp [hg]
   ·rcases Nat.lt_or_ge k n with h | h
    ·rw [Nat.testBit_two_pow_add_gt h,ih]
     simp [h,Nat.lt_succ_of_lt h]
    ·have h2:2 ^ n + bitsum g n < 2 ^ k:=by
       have:2 ^ (n + 1)≤2 ^ k:=Nat.pow_le_pow_right (by decide) (by omega)
       rw [Nat.pow_succ] at this
       omega
     rw [Nat.testBit_lt_two_pow h2]
     simp; omega
  ·rw [if_neg hg,Nat.add_zero,ih]
   by_cases hk:k = n
   ·subst hk; simp at hg; simp [hg]
   ·have:(k < n + 1) = (k < n):=by apply propext; omega
    simp only [this]
def word (m:Nat→Bool) (i:Nat):Nat:=bitsum (fun k => m (64 * i + k)) 64
theorem word_lt (m:Nat→Bool) (i:Nat):word m i < 18446744073709551616:=bitsum_lt _ 64
theorem word_testBit (m:Nat→Bool) (i k:Nat):(word m i).testBit k = (decide (k < 64) && m (64 * i + k)):=bitsum_testBit _ 64 k
theorem word_ext {m m':Nat→Bool} {i:Nat} (h:∀ k,k < 64→m (64 * i + k) = m' (64 * i + k)):word m i = word m' i:=by
 apply Nat.eq_of_testBit_eq
 intro k
 rw [word_testBit,word_testBit]
 by_cases hk:k < 64
 ·rw [h k hk]
 ·simp [hk]
theorem word_of (n:Nat) (h:n < 18446744073709551616) (m:Nat→Bool) (i:Nat) (hm:∀ k,k < 64→m (64 * i + k) = n.testBit k):word m i = n:=by
 apply Nat.eq_of_testBit_eq
 intro k
 rw [word_testBit]
 by_cases hk:k < 64
 ·rw [hm k hk]; simp [hk]
 ·have:n < 2 ^ k:=Nat.lt_of_lt_of_le h (by have:(2:Nat) ^ 64≤2 ^ k:=Nat.pow_le_pow_right (by decide) (by omega)
                                           simpa using this)
  rw [Nat.testBit_lt_two_pow this]; simp [hk]
def sBoth (m k:Nat→Bool):Nat→Bool:=fun b => m b && k b
def sOf (l:List Nat):Nat→Bool:=fun b => l.contains b
theorem word_both (m k:Nat→Bool) (i:Nat):bits .and .u64 (word m i:Int) (word k i:Int) = (word (sBoth m k) i:Int):=by
 rw [u64_and_nat _ _ (word_lt m i) (word_lt k i)]
 congr 1
 apply Nat.eq_of_testBit_eq
 intro j
 rw [Nat.testBit_and,word_testBit,word_testBit,word_testBit]
 unfold sBoth
 cases decide (j < 64) <;> simp
theorem bit_nat (n k:Nat) (h:n < 18446744073709551616):(bits .and .u64 ((n:Int) / 2 ^ k) 1 == 1) = n.testBit k:=by
 have e:((n:Int) / 2 ^ k) = ((n / 2 ^ k:Nat):Int):=by
  rw [Int.natCast_ediv,Int.natCast_pow]; rfl
 have hle:n / 2 ^ k < 18446744073709551616:=Nat.lt_of_le_of_lt (Nat.div_le_self _ _) h
 rw [e]
 have:=u64_and_nat (n / 2 ^ k) 1 hle (by decide)
 rw [show (1:Int) = ((1:Nat):Int) from rfl,this,Nat.and_one_is_mod]
 rw [Nat.testBit_eq_decide_div_mod_eq,Bool.eq_iff_iff,beq_iff_eq,decide_eq_true_eq]
 omega
theorem word_has (m:Nat→Bool) (b:Nat):(bits .and .u64 (((word m (b / 64):Nat):Int) / 2 ^ (b % 64)) 1 == 1) = m b:=by
 rw [bit_nat _ _ (word_lt _ _),word_testBit,Nat.div_add_mod]
 have:b % 64 < 64:=Nat.mod_lt _ (by decide)
 simp [this]
def sMix (n m:Nat→Bool) (k:Nat):Nat→Bool:=fun b => if b < 64 * k then n b else m b
theorem word_mix_lt (n m:Nat→Bool) (k i:Nat) (h:i < k):word (sMix n m k) i = word n i :=
 word_ext fun j hj => by unfold sMix; rw [if_pos (by omega)]
theorem word_mix_ge (n m:Nat→Bool) (k i:Nat) (h:k≤i):word (sMix n m k) i = word m i :=
 word_ext fun j hj => by unfold sMix; rw [if_neg (by omega)]
theorem word_mix_zero (n m:Nat→Bool) (i:Nat):word (sMix n m 0) i = word m i:=word_mix_ge n m 0 i (Nat.zero_le _)
def sCells (m:Nat→Bool):Array Value:=#[.int .u64 ((word m 0:Nat):Int),.int .u64 ((word m 1:Nat):Int),.int .u64 ((word m 2:Nat):Int),.int .u64 ((word m 3:Nat):Int)]
theorem sCells_get (m:Nat→Bool) (i:Nat) (h:i < 4):(sCells m)[i]? = some (.int .u64 ((word m i:Nat):Int)):=by
 match i,h with
 | 0,_ => rfl
 | 1,_ => rfl
 | 2,_ => rfl
 | 3,_ => rfl
theorem sCells_congr {m m':Nat→Bool} (h:∀ i,i < 4→word m i = word m' i):sCells m = sCells m':=by
 unfold sCells
 rw [h 0 (by decide),h 1 (by decide),h 2 (by decide),h 3 (by decide)]
theorem sCells_set (m m':Nat→Bool) (i:Nat) (h:i < 4) (h2:∀ j,j≠i→word m' j = word m j) :
    (sCells m).setIfInBounds i (.int .u64 ((word m' i:Nat):Int)) = sCells m':=by
 match i,h with
 | 0,_ => simp [sCells,h2]
 | 1,_ => simp [sCells,h2]
 | 2,_ => simp [sCells,h2]
 | 3,_ => simp [sCells,h2]
theorem sCells_mix (n m:Nat→Bool) (k:Nat) (h:k < 4):(sCells (sMix n m k)).setIfInBounds k (.int .u64 ((word n k:Nat):Int)) = sCells (sMix n m (k + 1)):=by
 have e:word n k = word (sMix n m (k + 1)) k:=(word_mix_lt n m (k + 1) k (by omega)).symm
 rw [e]
 refine sCells_set _ _ k h fun j hj => ?_
 rcases Nat.lt_or_ge j k with h1 | h1
 ·rw [word_mix_lt _ _ _ _ h1,word_mix_lt _ _ _ _ (by omega)]
 ·rw [word_mix_ge _ _ _ _ h1,word_mix_ge _ _ _ _ (by omega)]
def sIns (m:Nat→Bool) (b:Nat):Nat→Bool:=fun x => m x || x == b
theorem two_pow_testBit (b k:Nat) (hb:b < 64):(2 ^ b:Nat).testBit k = (decide (k < 64) && (k == b)):=by
 rw [Nat.testBit_two_pow,Bool.eq_iff_iff,Bool.and_eq_true,decide_eq_true_eq,decide_eq_true_eq,beq_iff_eq]
 omega
theorem wrap_pow (b:Nat) (hb:b < 64):IntKind.u64.wrap ((2:Int) ^ b) = ((2 ^ b:Nat):Int):=by
 have h:(2:Nat) ^ b < 2 ^ 64:=Nat.pow_lt_pow_right (by decide) hb
 have e:((2:Int) ^ b) = ((2 ^ b:Nat):Int):=by rw [Int.natCast_pow]; rfl
 have h2:(2:Nat) ^ 64 = 18446744073709551616:=rfl
 rw [h2] at h
 rw [e,IntKind.wrap_u64]
 generalize (2:Nat) ^ b = p at h ⊢
 omega
theorem word_ins_self (m:Nat→Bool) (b:Nat):bits .or .u64 ((word m (b / 64):Nat):Int) (IntKind.u64.wrap ((2:Int) ^ (b % 64))) = ((word (sIns m b) (b / 64):Nat):Int):=by
 have hb:b % 64 < 64:=Nat.mod_lt _ (by decide)
 have h:(2:Nat) ^ (b % 64) < 18446744073709551616:=by
  have:=Nat.pow_lt_pow_right (a:=2) (by decide) hb
  have h2:(2:Nat) ^ 64 = 18446744073709551616:=rfl
  omega
 rw [wrap_pow _ hb,u64_or_nat _ _ (word_lt m _) h]
 congr 1
 apply Nat.eq_of_testBit_eq
 intro j
 rw [Nat.testBit_or,word_testBit,word_testBit,two_pow_testBit _ _ hb]
 unfold sIns
 have e:(64 * (b / 64) + j == b) = (j == b % 64):=by rw [Bool.eq_iff_iff,beq_iff_eq,beq_iff_eq]; omega
 rw [e]
 cases decide (j < 64) <;> simp
theorem word_ins_other (m:Nat→Bool) (b j:Nat) (h:j≠b / 64):word (sIns m b) j = word m j :=
 word_ext fun k hk => by
  unfold sIns
  have:(64 * j + k == b) = false:=by rw [beq_eq_false_iff_ne]; omega
  rw [this,Bool.or_false]
theorem sCells_ins (m:Nat→Bool) (b:Nat) (h:b < 256):(sCells m).setIfInBounds (b / 64) (.int .u64 (bits .or .u64 ((word m (b / 64):Nat):Int) (IntKind.u64.wrap ((2:Int) ^ (b % 64))))) = sCells (sIns m b):=by
 rw [word_ins_self]
 exact sCells_set _ _ _ (by omega) fun j hj => word_ins_other m b j hj
theorem sOf_snoc (l:List Nat) (b:Nat):sOf (l ++ [b]) = sIns (sOf l) b:=by
 funext x
 simp only [sOf,sIns,List.contains_eq_mem,List.mem_append,List.mem_singleton]
 rw [Bool.eq_iff_iff]
 simp
def pw (k:Nat):Nat:=2 ^ k
theorem pw_pos (k:Nat):0 < pw k:=Nat.pow_pos (by decide)
theorem pw_lt (k:Nat) (h:k < 64):pw k < 18446744073709551616:=by
 have:=Nat.pow_lt_pow_right (a:=2) (by decide) h
 exact this
theorem pw_step (k:Nat) (h:k < 63):IntKind.u64.wrap (2 * ((pw k:Nat):Int)) = ((pw (k + 1):Nat):Int):=by
 have hl:=pw_lt (k + 1) (by omega)
 have e:pw (k + 1) = pw k * 2:=Nat.pow_succ ..
 rw [IntKind.wrap_u64]
 rw [e] at hl ⊢
 omega
theorem word_rhas (m:Nat→Bool) (b:Nat):(((word m (b / 64):Nat):Int) / ((pw (b % 64):Nat):Int) % 2 == 1) = m b:=by
 have h:=word_testBit m (b / 64) (b % 64)
 rw [Nat.div_add_mod] at h
 have:b % 64 < 64:=Nat.mod_lt _ (by decide)
 rw [Nat.testBit_eq_decide_div_mod_eq] at h
 simp only [this,decide_true,Bool.true_and] at h
 rw [← h]
 unfold pw
 generalize (2:Nat) ^ (b % 64) = p
 generalize word m (b / 64) = x
 rw [Bool.eq_iff_iff,beq_iff_eq,decide_eq_true_eq]
 rw [← Int.natCast_ediv]
 omega
theorem word_rhas' (m:Nat→Bool) (b:Nat):((IntKind.u64.wrap (((word m (b / 64):Nat):Int) / ((pw (b % 64):Nat):Int))).tmod 2 == 1) = m b:=by
 have hl:=word_lt m (b / 64)
 have h1:word m (b / 64) / pw (b % 64)≤word m (b / 64):=Nat.div_le_self _ _
 have e:IntKind.u64.wrap (((word m (b / 64):Nat):Int) / ((pw (b % 64):Nat):Int)) = ((word m (b / 64):Nat):Int) / ((pw (b % 64):Nat):Int):=by
  rw [IntKind.wrap_u64,← Int.natCast_ediv]
  generalize word m (b / 64) / pw (b % 64) = q at h1 ⊢
  omega
 rw [e,Int.tmod_eq_emod_of_nonneg (by rw [← Int.natCast_ediv]; exact Int.natCast_nonneg _)]
 exact word_rhas m b
end Go.Proofs.YtcondkihpmmnnaaGreatDoor
