/- Lemmas, part 22 of 39. No condition. -/
import Derived.Test.YtcondkihpmmnnaaGreatDoorUniqueP20
import Derived.Test.YtcondkihpmmnnaaGreatDoorUniqueP12
import Derived.Test.YtcondkihpmmnnaaGreatDoorUniqueP14
import Derived.Test.YtcondkihpmmnnaaGreatDoorUniqueP11
import Derived.Lib.QuietBelow
import Derived.Test.YtcondkihpmmnnaaGreatDoorUniqueP08
import Derived.Test.YtcondkihpmmnnaaGreatDoorUniqueP13
import Derived.Test.YtcondkihpmmnnaaGreatDoorUniqueP09
namespace Go.Proofs.YtcondkihpmmnnaaGreatDoor
open Go.RowKit Go.Sort
theorem ba_beq (a b:ByteArray):(a == b) = true↔a = b:=by
 constructor
 ·intro h
  exact bl_inj (by rw [beq_toListBytes,beq_iff_eq,Lib.toList_data,Lib.toList_data] at h; exact h)
 ·rintro rfl
  rw [beq_toListBytes]; simp
theorem ba_beqL (a b:ByteArray):(a.toList == b.toList) = true↔a = b:=by
 rw [← beq_toListBytes]; exact ba_beq a b
def encO (s:ByteArray):List Value:=[.string s]
theorem encO_len (s:ByteArray):(encO s).length = 1:=rfl
def endO (ends:List Tp) (s:Nat):List ByteArray:=(ends.filter fun z => z.st == (s:Int)).map Tp.out
def tailL (ends l:List Tp):List ByteArray:=l.flatMap fun x => (ends.filter fun z => z.st == x.st).map fun z => x.out ++ z.out
theorem tailF_eq (ends l:List Tp):tailF ends l = match tailL ends l with
    | [] => .ok (false,ByteArray.empty)
    | s :: r => if r.all (fun t => t == s) = true then (if 4096 < s.size then .error 2 else .ok (true,s)) else .error 12:=rfl
theorem tailL_next (ends l:List Tp) (k:Nat) (hk:k < l.length) (s:Nat) (hs:(l.getD k tp0).st = (s:Int)):tailL ends (l.take (k + 1)) = tailL ends (l.take k) ++ (endO ends s).map fun o => (l.getD k tp0).out ++ o:=by
 unfold tailL endO
 rw [take_next l tp0 k hk,List.flatMap_append,List.flatMap_singleton,hs,List.map_map]
 rfl
def Ones (p:List ByteArray) (b:Bool) (s:ByteArray):Prop:=(p = []∧b = false∧s = ByteArray.empty)∨(∃ r,p = s :: r∧b = true∧∀ z∈r,z = s)
theorem Ones.snoc {p:List ByteArray} {b:Bool} {s z:ByteArray} (h:Ones p b s) (hz:b = true→z = s):Ones (p ++ [z]) true z:=by
 rcases h with ⟨rfl,rfl,rfl⟩ | ⟨r,rfl,rfl,hr⟩
 ·exact .inr ⟨[],rfl,rfl,fun _ h => (List.not_mem_nil h).elim⟩
 ·obtain rfl:=hz rfl
  refine .inr ⟨r ++ [z],rfl,rfl,fun y hy => ?_⟩
  rcases List.mem_append.1 hy with h | h
  ·exact hr y h
  ·exact List.mem_singleton.1 h
theorem Ones.bad {ends l:List Tp} {p q:List ByteArray} {s z:ByteArray} (h:Ones p true s) (hp:tailL ends l = (p ++ [z]) ++ q) (hz:z≠s):tailF ends l = .error 12:=by
 rcases h with ⟨_,h,_⟩ | ⟨r,rfl,_,hr⟩
 ·cases h
 ·rw [tailF_eq,hp]
  show (if ((r ++ [z]) ++ q).all (fun t => t == s) = true then _ else _) = _
  rw [if_neg]
  rw [List.all_eq_true]
  intro h
  exact hz ((ba_beq z s).1 (h z (by simp)))
theorem Ones.good {ends l:List Tp} {b:Bool} {s:ByteArray} (h:Ones (tailL ends l) b s):tailF ends l = if 4096 < s.size then .error 2 else .ok (b,s):=by
 rw [tailF_eq]
 rcases h with ⟨h,rfl,rfl⟩ | ⟨r,h,rfl,hr⟩
 ·rw [h]; rfl
 ·rw [h]
  show (if r.all (fun t => t == s) = true then _ else _) = _
  rw [if_pos]
  rw [List.all_eq_true]
  intro z hz
  exact (ba_beq z s).2 (hr z hz)
def TailPost (ends l:List Tp) (w:World) (e:Ending) (w':World):Prop :=
 Below w.heap.size w w'∧match tailF ends l with
  | .error k => e = faultE k
  | .ok (b,s) => e = .returned (.tuple #[.bool b,.string s])
set_option maxRecDepth 100000 in
set_option maxHeartbeats 4000000 in
theorem tail_any (G B:Nat) (A:Option Addr) (n c:Nat) (ends l:List Tp) (w:World) (vA vR vM vN vO vE vT:Value) (L ns:Nat) (most:Int) (fr:ByteArray) (hG:Blk w G 78 #[vA,.slice (some ⟨L,0,none⟩) ns ns,.int .i64 most,vR,vM,.string fr,vN,vO,vE,vT])
    (HR:Reads w B 2 A n (encs encT l)) (HE:GrpR encO 1 w B L ns (endO ends)) (hB:B≤w.heap.size) (hGB:G < w.heap.size) (hl:∀ x∈l,0≤x.st∧x.st < (ns:Int)∧x.out.size≤4096) (he:ends.length≤1024∧∀ x∈ends,x.out.size≤1024) (hn:n≤100000) (_hns:ns≤1024) :
    Calls Tryz.prog 97 #[.pointer (some ⟨G,0,none⟩),.slice A n c] w (TailPost ends l w):=by
 have hln:=reads_len encT_len (by decide) HR
 have HLN:=Lib.hid hln
 have Hl:=Lib.hid hl
 have HEn:=Lib.hid he
 clear hln hl he
 go_enter Tryz.func97,Tryz.ntmps97
 go_wp2
 go_loopw [6,7,15] (fun bv sv i wr => ∃ (k:Nat) (b:Bool) (s:ByteArray),k≤n∧i = .int .i64 ((k:Nat):Int)∧bv = .bool b∧sv = .string s∧Ones (tailL ends (l.take k)) b s∧s.size≤5120∧Below w.heap.size w wr) (fun _ _ i _ => n - (intOf i).toNat)
 case atStart => exact ⟨0,false,ByteArray.empty,Nat.zero_le _,rfl,rfl,rfl,.inl ⟨rfl,rfl,rfl⟩,Nat.zero_le _,Below.refl _ _⟩
 case round =>
  obtain ⟨k,b,s,hk,rfl,rfl,rfl,hone,hss,hb⟩:=hrel
  have HOne:=Lib.hid hone
  clear hone
  by_cases hlt:k < n
  ·have hi1:(0:Int)≤(k:Int):=by omega
   have hi2:(k:Int) < (n:Int):=by omega
   obtain ⟨g,o,rfl,hgB,d0,d1⟩:=tip_cell (HR.below (hb.mono hB)) k hlt
   have hq:=Hl.out _ (getD_in l tp0 k (by have:=HLN.out; omega))
   obtain ⟨x,hx⟩:∃ x:Nat,(l.getD k tp0).st = (x:Int):=⟨_,(Int.toNat_of_nonneg hq.1).symm⟩
   have Hnext:=Lib.hid (tailL_next ends l k (by have:=HLN.out; omega) x hx)
   rw [hx] at d0 hq
   generalize (l.getD k tp0).out = xo at *
   have hxn:x < ns:=by omega
   have hx1:(0:Int)≤(x:Int):=by omega
   have hx2:(x:Int) < (ns:Int):=by omega
   obtain ⟨A2,c2,g0,g1,g2,g3⟩:=(HE.below (hb.mono hB)).2 x hxn
   have hcl:(endO ends x).length≤1024:=by unfold endO; rw [List.length_map]; exact Nat.le_trans (List.length_filter_le _ _) HEn.out.1
   have hcs:∀ z∈endO ends x,z.size≤1024:=fun z hz => by
    unfold endO at hz
    obtain ⟨y,hy,rfl⟩:=List.mem_map.1 hz
    exact HEn.out.2 y (List.mem_filter.1 hy).1
   have HCS:=Lib.hid hcs
   have HNE:=Lib.hid (show ∃ q,tailL ends l = tailL ends (l.take (k + 1)) ++ q from ⟨tailL ends (l.drop (k + 1)),by unfold tailL; rw [← List.flatMap_append,List.take_append_drop]⟩)
   clear hx hcs
   generalize hrw:endO ends x = row at *
   clear hrw
   generalize hrl:row.length = rl at *
   have HRL:=Lib.hid hrl
   clear hrl
   have LB:=(Below.refl wr.heap.size wr).alloc (Nat.le_refl _) (.cells #[.int .i64 (x:Int),.string xo] 54)
   have HX:=Blk.new wr 54 #[.int .i64 (x:Int),.string xo]
   have x0:=cell_regrown (HX.cell 0)
   have hb1:=hb.trans (LB.mono hb.size)
   have hG1:=(hG.below hb hGB).below LB (by have:=hb.size; omega)
   have y1:=cell_regrown (hG1.cell 1)
   have y2:=cell_regrown ((LB.cell (p:=⟨L,x,none⟩) (by have:=HE.1; have:=hb.size; show L < _; omega)).trans g0)
   have R2:=(g3.more (Nat.le_trans hB hb.size)).below LB
   have hz1:=hb.size
   clear LB hb g0 g3
   go_wp2
   clear d0 d1
   refine wp_region_quiet_below (by kernel_rfl) (by kernel_rfl) ?_
   repeat (go_big_quiet_step (fail))
   refine wpQuiet_nil ?_
   intro w5 hw5
   have LB:=below_of hw5
   have HX5:=HX.below LB HX.lt
   have hb5:=hb1.trans (LB.mono hb1.size)
   have R5:=R2.below (LB.mono (by simp))
   have hz5:wr.heap.size < w5.heap.size:=HX5.lt
   clear hw5 x0 y1 y2 HX hG1 hb1 R2 LB
   go_wp2
   go_loopw [6,7,28] (fun bv sv i wv => ∃ (j:Nat) (b:Bool) (s:ByteArray),j≤rl∧i = .int .i64 ((j:Nat):Int)∧bv = .bool b∧sv = .string s∧Ones (tailL ends (l.take k) ++ (row.take j).map fun z => xo ++ z) b s∧s.size≤5120∧wv = w5) (fun _ _ i _ => rl - (intOf i).toNat)
   case atStart => exact ⟨0,b,s,Nat.zero_le _,rfl,rfl,rfl,by rw [List.take_zero,List.map_nil,List.append_nil]; exact HOne.out,hss,rfl⟩
   case round =>
    clear HOne hss
    obtain ⟨j,b,s,hj,rfl,rfl,rfl,hone,hss,rfl⟩:=hrel
    have HOne:=Lib.hid hone
    clear hone
    by_cases hlt2:j < rl
    ·have hj1:(0:Int)≤(j:Int):=by omega
     have hj2:(j:Int) < (rl:Int):=by omega
     obtain ⟨g',o',rfl,hgB',e0⟩:=enc_cell encO_len (by decide) R5 ByteArray.empty j hlt2
     have e0:=e0 0 _ rfl
     simp only [Nat.mul_one,Nat.add_zero] at e0
     have hz:=HCS.out _ (getD_in row ByteArray.empty j (by have:=HRL.out; omega))
     have Hn2:=Lib.hid (take_next row ByteArray.empty j (by have:=HRL.out; omega))
     have HDr:=Lib.hid (show row = row.take (j + 1) ++ row.drop (j + 1) from (List.take_append_drop _ _).symm)
     generalize row.getD j ByteArray.empty = z at *
     have x1:=HX5.cell 1
     have hsz:(xo ++ z).size≤5120:=by
      have e:=congrArg List.length (bl_app xo z)
      rw [bl_len,List.length_append,bl_len,bl_len] at e
      omega
     have hone2:(b = true→xo ++ z = s)→Ones (tailL ends (l.take k) ++ (row.take (j + 1)).map fun z => xo ++ z) true (xo ++ z):=fun h => by
      rw [Hn2.out,List.map_append,← List.append_assoc]
      exact HOne.out.snoc h
     have hbad:b = true→xo ++ z≠s→tailF ends l = .error 12:=fun hb h => by
      subst hb
      obtain ⟨q,hq⟩:=HNE.out
      refine HOne.out.bad (q:=((row.drop (j + 1)).map fun z => xo ++ z) ++ q) ?_ h
      rw [hq,Hnext.out]
      conv => lhs; rw [HDr.out,Hn2.out]
      simp only [List.map_append,List.map_cons,List.map_nil,List.append_assoc]
     have HO2:=Lib.hid hone2
     have HBad:=Lib.hid hbad
     have hbq:=Lib.hid (ba_beqL (xo ++ z) s)
     have hmx:xo.size + z.size≤9223372036854775807:=by omega
     clear hone2 hbad
     rcases b with _ | _
     ·go_wp2
      go_roundw
      case rel => exact ⟨j + 1,true,xo ++ z,by omega,by go_num,rfl,rfl,HO2.out (fun h => by cases h),hsz,trivial⟩
      case measure => simp [intOf]; omega
     ·rcases hqq:((xo ++ z).toList == s.toList) with _ | _
      ·have hne:xo ++ z≠s:=fun e => by rw [(ba_beqL _ _).2 e] at hqq; cases hqq
       have hp:TailPost ends l w (faultE 12) _:=⟨hb5,by rw [HBad.out rfl hne]⟩
       have HP:=Lib.hid hp
       clear hp hne
       go_wp2
       exact ⟨rfl,HP.out⟩
      ·have HE2:=Lib.hid ((ba_beqL _ _).1 hqq)
       go_wp2
       go_roundw
       case rel => exact ⟨j + 1,true,xo ++ z,by omega,by go_num,rfl,rfl,HO2.out (fun _ => HE2.out),hsz,trivial⟩
       case measure => simp [intOf]; omega
    ·obtain rfl:rl = j:=by omega
     go_wp2
     go_roundw
     case rel => exact ⟨k + 1,b,s,by omega,by go_num,rfl,rfl,by rw [Hnext.out,← List.take_of_length_le (l:=row) (Nat.le_of_eq HRL.out)]; exact HOne.out,hss,hb5⟩
     case measure => simp [intOf]; omega
  ·obtain rfl:n = k:=by omega
   rw [List.take_of_length_le (by have:=HLN.out; omega)] at HOne
   have hgood:=HOne.out.good
   by_cases h4:s.size≤4096
   ·have hsh:=short_yes s wr h4
    have hp:TailPost ends l w (.returned (.tuple #[.bool b,.string s])) wr:=⟨hb,by rw [hgood,if_neg (by omega)]⟩
    have HP:=Lib.hid hp
    clear hgood hp
    go_wp2_with fail
    refine hsh.mono ?_
    rintro e w6 ⟨rfl,rfl⟩
    go_wp2
    exact bodyPost_ret (v:=.tuple #[.bool b,.string s]) (by simp [results,Tryz.results97,go_sem]) rfl HP.out
   ·have hsh:=short_no s wr (by unfold maxLen; omega) h4
    have hp:TailPost ends l w (faultE 2) wr:=⟨hb,by rw [hgood,if_pos (by omega)]⟩
    have HP:=Lib.hid hp
    clear hgood hp
    go_wp2_with fail
    refine hsh.mono ?_
    rintro e w6 ⟨he,rfl⟩
    unfold faultE at he
    subst he
    go_wp2
    exact ⟨rfl,HP.out⟩
end Go.Proofs.YtcondkihpmmnnaaGreatDoor
namespace Go.Proofs.YtcondkihpmmnnaaGreatDoor
open Go.RowKit Go.Sort
structure Pow (w:World) (B:Nat):Prop where
 tab:Lib.TabIs Tryz.prog w "internal/strconv.uint64pow10" .u64 Lib.pow10Tab
 lt:2 < B
theorem gPow:Tryz.prog.globalNamed "internal/strconv.uint64pow10" = some 2:=by kernel_rfl
theorem Pow.below {w w':World} {B:Nat} (h:Pow w B) (hb:Below B w w'):Pow w' B:=by
 refine ⟨?_,h.lt⟩
 have ht:=h.tab
 unfold Lib.TabIs World.var? at ht ⊢
 rw [gPow] at ht ⊢
 simp only [Option.bind_some] at ht ⊢
 rw [hb.block _ h.lt]
 exact ht
theorem Pow.mono {w:World} {B B':Nat} (h:Pow w B) (hb:B≤B'):Pow w B':=⟨h.tab,Nat.lt_of_lt_of_le h.lt hb⟩
structure KeyW (w wr:World) (acc:List UInt8):Prop where
 bld:BldF w.heap.size w.heap.size (Lib.byteCells acc) wr
 bel:Below w.heap.size w wr
theorem KeyW.call {w wr w':World} {acc:List UInt8} (h:KeyW w wr acc) (hb:Below wr.heap.size wr w'):KeyW w w' acc :=
 ⟨bld_below h.bld hb,h.bel.trans (hb.mono h.bel.size)⟩
theorem KeyW.write {w wr w':World} {acc:List UInt8} (h:KeyW w wr acc) (s:ByteArray) (hs:BldF w.heap.size w.heap.size (Lib.byteCells acc ++ Lib.strCells s) w') (hb:Below w.heap.size wr w'):KeyW w w' (acc ++ bl s) :=
 ⟨by rw [Lib.byteCells_append]; exact hs,h.bel.trans hb⟩
theorem KeyW.byte {w wr w':World} {acc:List UInt8} (h:KeyW w wr acc) (c:UInt8) (hs:BldF w.heap.size w.heap.size (Lib.byteCells acc ++ [.int .u8 (c.toNat:Int)]) w') (hb:Below w.heap.size wr w'):KeyW w w' (acc ++ [c]) :=
 ⟨by rw [Lib.byteCells_append]; exact hs,h.bel.trans hb⟩
theorem Blk.others {w w':World} {g b:Nat} {T:TypeId} {cs:Array Value} (h:Blk w g T cs) (hk:Lib.OthersKept 5 (some b) w w') (hg:g≠b) (hT:T≠5):Blk w' g T cs :=
 hk g _ h (fun e => hg (Option.some.inj e)) (fun c fz e => hT (by cases e; rfl))
theorem key_len (x:Tp) (h0:0≤x.st) (h1:x.st < 10000000) (h2:x.out.size≤10000000):(keyT1 x).length≤x.out.size + 100:=by
 have hd:∀ u,u < 10000000000000→(Lib.decDigits u).length≤20:=fun u hu => by
  rw [Lib.decDigits_length]
  by_cases h:Lib.nDigits u≤20
  ·exact h
  ·exfalso
   have:=Lib.nDigits_pos u
   have h3:∀ k u,u < 10 ^ (k + 1)→Lib.nDigits u≤k + 1:=by
    intro k
    induction k with
    | zero => intro u hu; rw [Lib.nDigits_small (by simpa using hu)]; exact Nat.le_refl _
    | succ k ih =>
     intro u hu
     by_cases h10:u < 10
     ·rw [Lib.nDigits_small h10]; omega
     ·rw [Lib.nDigits_big h10]
      have:=ih (u / 10) (Nat.div_lt_of_lt_mul (by rw [Nat.pow_succ,Nat.mul_comm] at hu; exact hu))
      omega
   exact h (h3 19 u (Nat.lt_of_lt_of_le hu (by decide)))
 unfold keyT1
 have e1:=hd x.st.toNat (by omega)
 have e2:=hd x.out.size (by omega)
 simp only [List.length_append,List.length_cons,bl_len]
 omega
theorem itoa_any (x:Nat) (hx:x≤9223372036854775807) (w:World) {B:Nat} (hP:Pow w B) :
    Calls Tryz.prog 103 #[.int .i64 (x:Int)] w fun e w' => e = .returned (.string ⟨(Lib.decDigits x).toArray⟩)∧Below w.heap.size w w':=by
 refine (Tryz.strconv_Itoa (x:Int) (by omega) (by omega) w hP.tab).mono ?_
 rintro e w' ⟨rfl,k,os,rfl⟩
 exact ⟨by rw [Lib.itoa_nonneg],below_regrown w (w.drawn + k) os⟩
theorem bl_mkl (l:List UInt8):bl ⟨l.toArray⟩ = l:=rfl
theorem keyR_snoc (l:List Tp) (k:Nat) (hk:k < l.length):keyR (l.take (k + 1)) = keyR (l.take k) ++ keyT1 (l.getD k tp0):=by
 unfold keyR
 rw [take_next l tp0 k hk,List.flatMap_append,List.flatMap_singleton]
end Go.Proofs.YtcondkihpmmnnaaGreatDoor
namespace Go.Proofs.YtcondkihpmmnnaaGreatDoor
open Go.RowKit Go.Sort
def KeyPost (l:List Tp) (w:World) (e:Ending) (w':World):Prop :=
 Below w.heap.size w w'∧e = .returned (.string ⟨(keyR l).toArray⟩)
set_option maxRecDepth 100000 in
set_option maxHeartbeats 4000000 in
theorem key_any (B:Nat) (A:Option Addr) (n c:Nat) (l:List Tp) (w:World)
    (HR:Reads w B 2 A n (encs encT l)) (hB:B≤w.heap.size) (hP:Pow w w.heap.size) (hl:∀ x∈l,0≤x.st∧x.st < 10000∧x.out.size≤4096) (hn:n≤100000) :
    Calls Tryz.prog 96 #[.slice A n c] w (KeyPost l w):=by
 have hln:=reads_len encT_len (by decide) HR
 have HLN:=Lib.hid hln
 have Hl:=Lib.hid hl
 clear hln hl
 have HP:=Lib.hid hP
 clear hP
 have hK0:KeyW w (w.alloc (.cells #[.pointer none,.slice none 0 0] 83)) [] :=
  ⟨.inl ⟨Nat.le_refl _,.slice none 0 0,heap_alloc_new w _,World.ownsRowF_of (World.ownsRow_nil _ _ _ _),by simp [Value.ownBlock]⟩,(Below.refl _ w).alloc (Nat.le_refl _) _⟩
 go_enter Tryz.func96,Tryz.ntmps96
 go_wp2
 go_loopw [8] (fun i wr => ∃ (k:Nat),k≤n∧i = .int .i64 ((k:Nat):Int)∧KeyW w wr (keyR (l.take k))∧(keyR (l.take k)).length≤k * 4200) (fun i _ => n - (intOf i).toNat)
 case atStart => exact ⟨0,Nat.zero_le _,rfl,hK0,Nat.zero_le _⟩
 case round =>
  obtain ⟨k,hk,rfl,HK,hlen⟩:=hrel
  by_cases hlt:k < n
  ·have hi1:(0:Int)≤(k:Int):=by omega
   have hi2:(k:Int) < (n:Int):=by omega
   obtain ⟨g,o,rfl,hgB,d0,d1⟩:=tip_cell (HR.below (HK.bel.mono hB)) k hlt
   have hq:=Hl.out _ (getD_in l tp0 k (by have:=HLN.out; omega))
   obtain ⟨x,hx⟩:∃ x:Nat,(l.getD k tp0).st = (x:Int):=⟨_,(Int.toNat_of_nonneg hq.1).symm⟩
   have Hnext:=Lib.hid (keyR_snoc l k (by have:=HLN.out; omega))
   have Hkl:=Lib.hid (key_len (l.getD k tp0) hq.1 (by omega) (by omega))
   have Hkt:=Lib.hid (show keyT1 (l.getD k tp0) = Lib.decDigits x ++ 58 :: (Lib.decDigits (l.getD k tp0).out.size ++ 58 :: bl (l.getD k tp0).out) by unfold keyT1; rw [hx,Int.toNat_natCast])
   rw [hx] at d0 hq
   generalize (l.getD k tp0).out = xo at *
   generalize keyT1 (l.getD k tp0) = kt at *
   generalize keyR (l.take k) = acc at *
   clear hx
   have HX:=Blk.new wr 54 #[.int .i64 (x:Int),.string xo]
   have HK1:=HK.call ((Below.refl wr.heap.size wr).alloc (Nat.le_refl _) (.cells #[.int .i64 (x:Int),.string xo] 54))
   have hbz:=HK.bel.size
   have x0:=HX.cell 0
   have hPw:=HP.out
   have hgX:wr.heap.size≠w.heap.size:=fun e => by have:=bld_lt HK.bld; omega
   have hT:54≠5:=by decide
   clear HK
   go_wp2_with fail
   refine (itoa_any x (by omega) _ ((hPw.below HK1.bel))).mono ?_
   rintro e w5 ⟨rfl,hb5⟩
   have HK5:=HK1.call hb5
   have HX5:=HX.below hb5 HX.lt
   have hz5:=HK5.bel.size
   clear HK1 HX x0 d0 d1 hb5
   have hs1:(ByteArray.mk (Lib.decDigits x).toArray).size≤5000:=by
    have:=Hkl.out
    rw [Hkt.out,List.length_append] at this
    show (Lib.decDigits x).toArray.size≤_
    rw [List.size_toArray]; omega
   have hs2:(ByteArray.mk (Lib.decDigits xo.size).toArray).size≤5000:=by
    have:=Hkl.out
    rw [Hkt.out,List.length_append,List.length_cons,List.length_append] at this
    show (Lib.decDigits xo.size).toArray.size≤_
    rw [List.size_toArray]; omega
   have hs3:kt.length≤4200:=by have:=Hkl.out; omega
   have hkt:=Hkt.out
   rw [← bl_mkl (Lib.decDigits x),← bl_mkl (Lib.decDigits xo.size)] at hkt
   have HKT:=Lib.hid hkt
   clear Hkt Hkl hkt
   generalize hD1:(ByteArray.mk (Lib.decDigits x).toArray) = s1 at *
   go_wp2_with fail
   refine (writeString_any w.heap.size w.heap.size (Lib.byteCells acc) s1 _ HK5.bld (by rw [Lib.byteCells_length]; omega) HK5.bel.size).mono ?_
   rintro e w6 ⟨rfl,hbd,hbw,hkp⟩
   have HK6:=HK5.write s1 hbd hbw
   have HX6:=HX5.others hkp hgX hT
   clear HK5 HX5 hbd hbw hkp
   go_wp2_with fail
   refine (writeByte_any w.heap.size w.heap.size (Lib.byteCells (acc ++ bl s1)) 58 _ HK6.bld (by rw [Lib.byteCells_length,List.length_append,bl_len]; omega) HK6.bel.size).mono ?_
   rintro e w7 ⟨rfl,hbd,hbw,hkp⟩
   have HK7:=HK6.byte 58 hbd hbw
   have HX7:=HX6.others hkp hgX hT
   have x1:=HX7.cell 1
   clear HK6 HX6 hbd hbw hkp
   go_wp2_with fail
   refine (itoa_any xo.size (by omega) _ (hPw.below HK7.bel)).mono ?_
   rintro e w8 ⟨rfl,hb8⟩
   have HK8:=HK7.call hb8
   have HX8:=HX7.below hb8 HX7.lt
   clear HK7 HX7 hb8 x1
   generalize hD2:(ByteArray.mk (Lib.decDigits xo.size).toArray) = s2 at *
   go_wp2_with fail
   refine (writeString_any w.heap.size w.heap.size (Lib.byteCells (acc ++ bl s1 ++ [58])) s2 _ HK8.bld (by rw [Lib.byteCells_length,List.length_append,List.length_append,bl_len,List.length_singleton]; omega) HK8.bel.size).mono ?_
   rintro e w9 ⟨rfl,hbd,hbw,hkp⟩
   have HK9:=HK8.write s2 hbd hbw
   have HX9:=HX8.others hkp hgX hT
   clear HK8 HX8 hbd hbw hkp
   go_wp2_with fail
   refine (writeByte_any w.heap.size w.heap.size (Lib.byteCells (acc ++ bl s1 ++ [58] ++ bl s2)) 58 _ HK9.bld (by rw [Lib.byteCells_length]; simp only [List.length_append,bl_len,List.length_singleton]; omega) HK9.bel.size).mono ?_
   rintro e w10 ⟨rfl,hbd,hbw,hkp⟩
   have HK10:=HK9.byte 58 hbd hbw
   have HX10:=HX9.others hkp hgX hT
   have x1:=HX10.cell 1
   clear HK9 HX9 hbd hbw hkp
   go_wp2_with fail
   refine (writeString_any w.heap.size w.heap.size (Lib.byteCells (acc ++ bl s1 ++ [58] ++ bl s2 ++ [58])) xo _ HK10.bld (by rw [Lib.byteCells_length]; simp only [List.length_append,bl_len,List.length_singleton]; omega) HK10.bel.size).mono ?_
   rintro e w11 ⟨rfl,hbd,hbw,_⟩
   have HK11:=HK10.write xo hbd hbw
   clear HK10 HX10 hbd hbw x1
   have hfin:acc ++ bl s1 ++ [58] ++ bl s2 ++ [58] ++ bl xo = keyR (l.take (k + 1)):=by
    rw [Hnext.out,HKT.out]; simp
   rw [hfin] at HK11
   have hlf:(keyR (l.take (k + 1))).length≤(k + 1) * 4200:=by rw [Hnext.out,List.length_append]; omega
   have HLF:=Lib.hid hlf
   clear hfin hlf
   go_wp2
   go_roundw
   case rel => exact ⟨k + 1,by omega,by go_num,HK11,HLF.out⟩
   case measure => simp [intOf]; omega
  ·obtain rfl:n = k:=by omega
   rw [List.take_of_length_le (by have:=HLN.out; omega)] at HK
   go_wp2_with fail
   refine (Tryz.Builder_String_any_k w.heap.size w.heap.size (keyR l) _ HK.bld HK.bel.size).mono ?_
   rintro e w8 ⟨rfl,_,hbw,_⟩
   have hfin:KeyPost l w (.returned (.string ⟨(keyR l).toArray⟩)) w8:=⟨HK.bel.trans hbw,rfl⟩
   have HF:=Lib.hid hfin
   clear hfin
   generalize keyR l = kk at *
   go_wp2
   exact bodyPost_ret (v:=.string ⟨kk.toArray⟩) (by simp [results,Tryz.results96,go_sem]) rfl HF.out
end Go.Proofs.YtcondkihpmmnnaaGreatDoor
namespace Go.Proofs.YtcondkihpmmnnaaGreatDoor
open Go.RowKit Go.Sort
theorem reads_at {w w':World} {B B' k n g:Nat} {xs:List Value} (h:Reads w B k (some ⟨g,0,none⟩) n xs) (hk:w'.heap[g]? = w.heap[g]?) (hB:g < B'):Reads w' B' k (some ⟨g,0,none⟩) n xs:=by
 refine ⟨h.1,fun h0 => ?_⟩
 obtain ⟨ad,e,_,hc⟩:=h.2 h0
 obtain rfl:=Option.some.inj e
 exact ⟨_,rfl,hB,fun j u hj => by
  rw [← hc j u hj]
  have:((⟨g,0,none⟩:Addr).add j).block = g:=by rw [add_mk]
  exact cell_kept (by rw [this]; exact hk)⟩
def SlR (M:Nat→Prop) (w:World) (k:Nat) (v:Value) (n:Nat) (xs:List Value):Prop :=
 ∃ g c,v = .slice (some ⟨g,0,none⟩) n c∧n≤c∧c≤maxLen∧g < w.heap.size∧¬ M g∧Reads w w.heap.size k (some ⟨g,0,none⟩) n xs
theorem SlR.keep {M:Nat→Prop} {w w':World} {k n:Nat} {v:Value} {xs:List Value} (h:SlR M w k v n xs) (hz:w.heap.size≤w'.heap.size) (hk:∀ g,g < w.heap.size→¬ M g→w'.heap[g]? = w.heap[g]?):SlR M w' k v n xs:=by
 obtain ⟨g,c,rfl,h1,h2,h3,h4,h5⟩:=h
 exact ⟨g,c,rfl,h1,h2,by omega,h4,reads_at h5 (hk g h3 h4) (by omega)⟩
theorem SlR.set {M M':Nat→Prop} {w:World} {k n:Nat} {v:Value} {xs:List Value} (h:SlR M w k v n xs) (hM:∀ g,g < w.heap.size→M' g→M g):SlR M' w k v n xs:=by
 obtain ⟨g,c,rfl,h1,h2,h3,h4,h5⟩:=h
 exact ⟨g,c,rfl,h1,h2,h3,fun e => h4 (hM g h3 e),h5⟩
theorem SlR.below {M:Nat→Prop} {w w':World} {k n:Nat} {v:Value} {xs:List Value} (h:SlR M w k v n xs) (hb:Below w.heap.size w w'):SlR M w' k v n xs :=
 h.keep hb.size fun g hg _ => hb.block g hg
abbrev mkCells (vA vE:Value) (most:Int) (MB:Nat) (fr:ByteArray) (vR vN vO vEn vT:Value):Array Value:=#[vA,vE,.int .i64 most,vR,.map (some MB),.string fr,vN,vO,vEn,vT]
structure MkV (w:World) (B0 P0 G MB:Nat) (vA vE:Value) (most:Int) (fr:ByteArray) (vR vN vO vEn vT:Value) (tv nv ov:List Value) (S:Mk) (M:Nat→Prop):Prop where
 box:Blk w G 78 (mkCells vA vE most MB fr vR vN vO vEn vT)
 num:Num w MB (S.rows.map keyR)
 oR:w.ownsRow P0 29 1 vR S.rows.length tv
 oN:w.ownsRow P0 55 1 vN S.next.length nv
 oO:w.ownsRow P0 25 1 vO S.outs.length ov
 oE:w.ownsRow P0 4 1 vEn S.ends.length (S.ends.map Value.bool)
 oT:w.ownsRow P0 9 1 vT S.tails.length (S.tails.map Value.string)
 tips:∀ i,i < S.rows.length→SlR M w 2 (tv.getD i nilV) (S.rows.getD i []).length (encs encT (S.rows.getD i []))
 nexts:∀ i,i < S.next.length→SlR M w 1 (nv.getD i nilV) (S.next.getD i []).length ((S.next.getD i []).map (Value.int .i64))
 outss:∀ i,i < S.outs.length→SlR M w 1 (ov.getD i nilV) (S.outs.getD i []).length ((S.outs.getD i []).map Value.string)
 le:B0≤P0
 sz:P0≤w.heap.size
 gG:B0≤G
 gM:B0≤MB
 low:∀ g,g < P0→M g
 mG:M G
 mM:M MB
 mR:∀ g,vR.ownBlock = some g→M g
 mN:∀ g,vN.ownBlock = some g→M g
 mO:∀ g,vO.ownBlock = some g→M g
 mE:∀ g,vEn.ownBlock = some g→M g
 mT:∀ g,vT.ownBlock = some g→M g
section
variable {w w' w1:World} {B0 P0 G MB:Nat} {vA vE:Value} {most:Int} {fr:ByteArray} {vR vN vO vEn vT:Value} {tv nv ov:List Value} {S:Mk} {M M':Nat→Prop}
theorem num_block {ks:List (List UInt8)} {b g:Nat} {T:TypeId} {cs:Array Value} (h:Num w b ks) (hb:Blk w g T cs):g≠b:=by
 obtain ⟨n,D,⟨es,clock,he,_⟩,_⟩:=h
 rintro rfl
 rw [show w.heap[g]? = _ from hb] at he
 cases he
theorem num_own {ks:List (List UInt8)} {b base n size:Nat} {e:TypeId} {v:Value} {xs:List Value} (h:Num w b ks) (ho:w.ownsRow base e size v n xs):v.ownBlock≠some b:=by
 obtain ⟨n,D,⟨es,clock,he,_⟩,_⟩:=h
 rcases ho.2 with ⟨rfl,_⟩ | ⟨g,cap,cur,rfl,_,hh,_⟩
 ·intro e; cases e
 ·intro e
  have e:g = b:=Option.some.inj e
  subst e
  rw [hh] at he; cases he
theorem Num.setCell {ks:List (List UInt8)} {b:Nat} (h:Num w b ks) {p:Addr} (hp:p.block≠b) (u:Value):Num (w.setCell p u) b ks:=by
 refine h.kept (row:=some p.block) ⟨rfl,rfl,rfl,by simp,fun k hk hne => Below.heap_setCell w p u k (fun e => hne (by rw [e]))⟩ (fun e => hp (Option.some.inj e).symm)
theorem MkV.call (h:MkV w B0 P0 G MB vA vE most fr vR vN vO vEn vT tv nv ov S M) (hb:Below w.heap.size w w'):MkV w' B0 P0 G MB vA vE most fr vR vN vO vEn vT tv nv ov S M :=
 { h with
  box:=h.box.below hb h.box.lt
  sz:=Nat.le_trans h.sz hb.size
  num:=h.num.below hb (Nat.le_refl _)
  oR:=own_below h.oR hb
  oN:=own_below h.oN hb
  oO:=own_below h.oO hb
  oE:=own_below h.oE hb
  oT:=own_below h.oT hb
  tips:=fun i hi => (h.tips i hi).below hb
  nexts:=fun i hi => (h.nexts i hi).below hb
  outss:=fun i hi => (h.outss i hi).below hb }
theorem MkV.other (h:MkV w B0 P0 G MB vA vE most fr vR vN vO vEn vT tv nv ov S M) (hM:∀ g,g < w.heap.size→M' g→M g) (hG:M' G) (hB:M' MB) (hR:∀ g,vR.ownBlock = some g→M' g) (hN:∀ g,vN.ownBlock = some g→M' g) (hO:∀ g,vO.ownBlock = some g→M' g) (hE:∀ g,vEn.ownBlock = some g→M' g) (hT:∀ g,vT.ownBlock = some g→M' g) (hlow:∀ g,g < P0→M' g) :
    MkV w B0 P0 G MB vA vE most fr vR vN vO vEn vT tv nv ov S M' :=
 { h with tips:=fun i hi => (h.tips i hi).set hM,nexts:=fun i hi => (h.nexts i hi).set hM,outss:=fun i hi => (h.outss i hi).set hM,low:=hlow,mG:=hG,mM:=hB,mR:=hR,mN:=hN,mO:=hO,mE:=hE,mT:=hT }
def Mine (G MB:Nat) (vR vN vO vEn vT:Value) (g:Nat):Prop:=g = G∨g = MB∨vR.ownBlock = some g∨vN.ownBlock = some g∨vO.ownBlock = some g∨vEn.ownBlock = some g∨vT.ownBlock = some g
theorem MkV.less (h:MkV w B0 P0 G MB vA vE most fr vR vN vO vEn vT tv nv ov S M):MkV w B0 P0 G MB vA vE most fr vR vN vO vEn vT tv nv ov S (fun g => Mine G MB vR vN vO vEn vT g∨g < P0):=by
 refine h.other (fun g _ hg => ?_) (.inl (.inl rfl)) (.inl (.inr (.inl rfl))) (fun g e => .inl (.inr (.inr (.inl e)))) (fun g e => .inl (.inr (.inr (.inr (.inl e))))) (fun g e => .inl (.inr (.inr (.inr (.inr (.inl e)))))) (fun g e => .inl (.inr (.inr (.inr (.inr (.inr (.inl e))))))) (fun g e => .inl (.inr (.inr (.inr (.inr (.inr (.inr e))))))) (fun g hg => .inr hg)
 rcases hg with hg | hg
 ·rcases hg with rfl | rfl | e | e | e | e | e
  ·exact h.mG
  ·exact h.mM
  ·exact h.mR g e
  ·exact h.mN g e
  ·exact h.mO g e
  ·exact h.mE g e
  ·exact h.mT g e
 ·exact h.low g hg
theorem MkV.far (h:MkV w B0 P0 G MB vA vE most fr vR vN vO vEn vT tv nv ov S M) {p:Addr} (hp:M p.block) (hm:¬ Mine G MB vR vN vO vEn vT p.block) (u:Value):MkV (w.setCell p u) B0 P0 G MB vA vE most fr vR vN vO vEn vT tv nv ov S M:=by
 have hk:∀ g,g < w.heap.size→¬ M g→(w.setCell p u).heap[g]? = w.heap[g]?:=fun g _ hg => Below.heap_setCell _ _ _ _ (fun e => hg (e ▸ hp))
 unfold Mine at hm
 simp only [not_or] at hm
 obtain ⟨n1,n2,n3,n4,n5,n6,n7⟩:=hm
 exact { h with
  box:=h.box.far (fun e => n1 e.symm) u
  sz:=by simpa using h.sz
  num:=h.num.setCell n2 u
  oR:=own_setCell h.oR n3 u
  oN:=own_setCell h.oN n4 u
  oO:=own_setCell h.oO n5 u
  oE:=own_setCell h.oE n6 u
  oT:=own_setCell h.oT n7 u
  tips:=fun i hi => (h.tips i hi).keep (by simp) hk
  nexts:=fun i hi => (h.nexts i hi).keep (by simp) hk
  outss:=fun i hi => (h.outss i hi).keep (by simp) hk }
theorem slr_snoc {α:Type} {d:α} {enc:α→List Value} {k:Nat} {tv:List Value} {l:List α} {len:α→Nat} (x:α) (v:Value) (ht:tv.length = l.length) (h:∀ i,i < l.length→SlR M w k (tv.getD i nilV) (len (l.getD i d)) (enc (l.getD i d))) (hx:SlR M w k v (len x) (enc x)) :
    ∀ i,i < (l ++ [x]).length→SlR M w k ((tv ++ [v]).getD i nilV) (len ((l ++ [x]).getD i d)) (enc ((l ++ [x]).getD i d)):=by
 intro i hi
 rw [List.length_append,List.length_singleton] at hi
 by_cases e:i < l.length
 ·have e1:(tv ++ [v]).getD i nilV = tv.getD i nilV:=by rw [List.getD_eq_getElem?_getD,List.getD_eq_getElem?_getD,List.getElem?_append_left (by omega)]
  have e2:(l ++ [x]).getD i d = l.getD i d:=by rw [List.getD_eq_getElem?_getD,List.getD_eq_getElem?_getD,List.getElem?_append_left e]
  rw [e1,e2]; exact h i e
 ·obtain rfl:i = l.length:=by omega
  have e1:(tv ++ [v]).getD l.length nilV = v:=by rw [List.getD_eq_getElem?_getD,← ht,List.getElem?_append_right (Nat.le_refl _),Nat.sub_self]; rfl
  have e2:(l ++ [x]).getD l.length d = x:=by rw [List.getD_eq_getElem?_getD,List.getElem?_append_right (Nat.le_refl _),Nat.sub_self]; rfl
  rw [e1,e2]; exact hx
theorem num_grown {ks:List (List UInt8)} (h:Num w MB ks) {base n size:Nat} {e:TypeId} {v:Value} {xs:List Value} (ho:w.ownsRow base e size v n xs) (hg:w.grownBy w' v.ownBlock):Num w' MB ks :=
 h.kept hg (fun e => num_own h ho e.symm)
theorem MkV.putR {l:List Tp} (h:MkV w B0 P0 G MB vA vE most fr vR vN vO vEn vT tv nv ov S M) (hnum:Num w1 MB ((S.rows ++ [l]).map keyR)) (hg1:w.grownBy w1 (some MB))
    {w2:World} (hb2:Below w1.heap.size w1 w2) {w3:World} {v v':Value} (hv:SlR M w 2 v l.length (encs encT l)) (hg3:w2.grownBy w3 vR.ownBlock) (ho:w3.ownsRow P0 29 1 v' (S.rows.length + 1) (tv ++ [v])) (hnew:v'.ownBlock = vR.ownBlock∨v'.ownBlock = some w2.heap.size) :
    MkV (w3.setCell ⟨G,3,none⟩ v') B0 P0 G MB vA vE most fr v' vN vO vEn vT (tv ++ [v]) nv ov { S with rows:=S.rows ++ [l] } (fun g => M g∨v'.ownBlock = some g):=by
 have hb1:=h.box.grown hg1 (fun e => num_block h.num h.box (Option.some.inj e))
 have hb2':=hb1.below hb2 hb1.lt
 have z1:=hg1.size
 have z2:=hb2.size
 have z3:=hg3.size
 have own12:∀ {e:TypeId} {n:Nat} {u:Value} {xs:List Value},w.ownsRow P0 e 1 u n xs→w2.ownsRow P0 e 1 u n xs:=fun ho => own_below (ho.kept hg1 (.inr (num_own h.num ho))) hb2
 have oR2:=own12 h.oR
 have oN2:=own12 h.oN
 have oO2:=own12 h.oO
 have oE2:=own12 h.oE
 have oT2:=own12 h.oT
 have hnR:vR.ownBlock≠some G:=own_blk oR2 hb2' (by decide)
 have hb3:=blk_keep hb2' hg3 hnR
 have oN3:=oN2.kept hg3 (apart_types oN2 oR2 (by decide)).or_none
 have oO3:=oO2.kept hg3 (apart_types oO2 oR2 (by decide)).or_none
 have oE3:=oE2.kept hg3 (apart_types oE2 oR2 (by decide)).or_none
 have oT3:=oT2.kept hg3 (apart_types oT2 oR2 (by decide)).or_none
 have n2:Num w2 MB ((S.rows ++ [l]).map keyR):=hnum.below hb2 (Nat.le_refl _)
 have n3:=num_grown n2 oR2 hg3
 have hne:G≠MB:=num_block h.num h.box
 have hk:∀ g,g < w.heap.size→¬ M g→(w3.setCell ⟨G,3,none⟩ v').heap[g]? = w.heap[g]?:=fun g hlt hn => by
  rw [Below.heap_setCell _ _ _ _ (show g≠G from fun e => hn (e ▸ h.mG)),hg3.block g (by omega) (fun e => hn (h.mR g e.symm)),hb2.block g (by omega),hg1.block g hlt (fun e => hn (Option.some.inj e ▸ h.mM))]
 have hz:w.heap.size≤(w3.setCell ⟨G,3,none⟩ v').heap.size:=by simp; omega
 have hM:∀ g,g < w.heap.size→(M g∨v'.ownBlock = some g)→M g:=fun g hlt e => by
  rcases e with e | e
  ·exact e
  ·rcases hnew with f | f
   ·exact h.mR g (f ▸ e)
   ·rw [f] at e; have:=Option.some.inj e; omega
 have hs:∀ {k n:Nat} {u:Value} {xs:List Value},SlR M w k u n xs→SlR (fun g => M g∨v'.ownBlock = some g) (w3.setCell ⟨G,3,none⟩ v') k u n xs:=fun hu => (hu.set hM).keep hz fun g hlt hn => hk g hlt (fun e => hn (.inl e))
 exact {
  box:=hb3.set_ 3 v'
  num:=n3.setCell (fun e => hne e) v'
  oR:=by rw [List.length_append]; exact own_setCell ho (own_blk ho hb3 (by decide)) _
  oN:=own_setCell oN3 (own_blk oN3 hb3 (by decide)) _
  oO:=own_setCell oO3 (own_blk oO3 hb3 (by decide)) _
  oE:=own_setCell oE3 (own_blk oE3 hb3 (by decide)) _
  oT:=own_setCell oT3 (own_blk oT3 hb3 (by decide)) _
  tips:=slr_snoc (d:=[]) (len:=List.length) (enc:=encs encT) l v (by have:=h.oR.1; omega) (fun i hi => hs (h.tips i hi)) (hs hv)
  nexts:=fun i hi => hs (h.nexts i hi)
  outss:=fun i hi => hs (h.outss i hi)
  le:=h.le
  sz:=Nat.le_trans h.sz hz
  gG:=h.gG
  gM:=h.gM
  low:=fun g hg => .inl (h.low g hg)
  mG:=.inl h.mG
  mM:=.inl h.mM
  mR:=fun g e => .inr e
  mN:=fun g e => .inl (h.mN g e)
  mO:=fun g e => .inl (h.mO g e)
  mE:=fun g e => .inl (h.mE g e)
  mT:=fun g e => .inl (h.mT g e) }
end
end Go.Proofs.YtcondkihpmmnnaaGreatDoor
namespace Go.Proofs.YtcondkihpmmnnaaGreatDoor
open Go.RowKit Go.Sort
def StatePost (B0 P0 G MB:Nat) (vA vE:Value) (most:Nat) (fr:ByteArray) (vR vN vO vEn vT:Value) (nv ov:List Value) (S:Mk) (M:Nat→Prop) (l:List Tp) (w:World) (e:Ending) (w':World):Prop :=
 Below B0 w w'∧(∀ g,g < w.heap.size→g≠G→g≠MB→vR.ownBlock≠some g→w'.heap[g]? = w.heap[g]?)∧match stateF most S.rows l with
  | .error k => e = faultE k
  | .ok (i,rows) => e = .returned (.int .i64 (i:Int))∧∃ vR' tv',MkV w' B0 P0 G MB vA vE (most:Int) fr vR' vN vO vEn vT tv' nv ov { S with rows:=rows } (fun g => M g∨vR'.ownBlock = some g) ∧
   ∀ g,vR'.ownBlock = some g→vR.ownBlock = some g∨w.heap.size≤g
theorem slT_info:(Tryz.prog.info? 29).map (fun i => (i.zero,i.size,i.bytes)) = some (some (.slice none 0 0),1,24):=by kernel_rfl
theorem zero_int (w:World):(zeroValue 3).run Tryz.prog w = .ok (.int .i64 0) w:=by kernel_rfl
theorem state_yes {rows:List (List Tp)} {l:List Tp} (most:Nat) (hr:∀ r∈rows,∀ x∈r,0≤x.st) (hl:∀ x∈l,0≤x.st) (hk:keyR l∈rows.map keyR):∃ i,(rows.map keyR)[i]? = some (keyR l)∧stateF most rows l = .ok (i,rows):=by
 obtain ⟨r,hr1,hr2⟩:=List.mem_map.1 hk
 obtain rfl:r = l:=keyR_inj (hr r hr1) hl hr2
 have hs:(rows.idxOf? r).isSome = true:=by
  rcases e:rows.idxOf? r with _ | i
  ·exact absurd hr1 (List.idxOf?_eq_none_iff.1 e)
  ·rfl
 obtain ⟨i,hi⟩:=Option.isSome_iff_exists.1 hs
 refine ⟨i,?_,by unfold stateF; rw [hi]⟩
 have h2:=List.idxOf?_eq_some_iff.1 hi
 obtain ⟨hlt,h3,_⟩:=h2
 rw [List.getElem?_map,List.getElem?_eq_getElem hlt,Option.map_some,(by simpa using h3:rows[i] = r)]
theorem state_no {rows:List (List Tp)} {l:List Tp} (most:Nat) (hk:keyR l ∉ rows.map keyR):stateF most rows l = if most≤rows.length then .error 2 else .ok (rows.length,rows ++ [l]):=by
 have:rows.idxOf? l = none:=List.idxOf?_eq_none_iff.2 fun h => hk (List.mem_map.2 ⟨l,h,rfl⟩)
 unfold stateF
 rw [this]
theorem keyR_len (l:List Tp) (hl:∀ x∈l,0≤x.st∧x.st < 10000∧x.out.size≤4096):(keyR l).length≤l.length * 4200:=by
 induction l with
 | nil => simp [keyR]
 | cons x l ih =>
  have h1:=key_len x (hl x List.mem_cons_self).1 (by have:=hl x List.mem_cons_self; omega) (by have:=hl x List.mem_cons_self; omega)
  have h2:=ih fun y hy => hl y (List.mem_cons_of_mem _ hy)
  have h3:=(hl x List.mem_cons_self).2.2
  show (keyT1 x ++ keyR l).length≤_
  rw [List.length_append,List.length_cons]
  omega
set_option maxRecDepth 100000 in
set_option maxHeartbeats 4000000 in
theorem stateM_any {B0 P0 G MB:Nat} {vA vE:Value} {most:Nat} {fr:ByteArray} {vR vN vO vEn vT:Value} {tv nv ov:List Value} {S:Mk} {M:Nat→Prop} (g c:Nat) (l:List Tp) (w:World)
    (h:MkV w B0 P0 G MB vA vE (most:Int) fr vR vN vO vEn vT tv nv ov S M) (hv:SlR M w 2 (.slice (some ⟨g,0,none⟩) l.length c) l.length (encs encT l)) (hP:Pow w B0)
    (hl:∀ x∈l,0≤x.st∧x.st < 10000∧x.out.size≤4096) (hn:l.length≤100000) (hr:∀ r∈S.rows,∀ x∈r,0≤x.st) (hm:most≤1024) (hrl:S.rows.length≤most) :
    Calls Tryz.prog 63 #[.pointer (some ⟨G,0,none⟩),.slice (some ⟨g,0,none⟩) l.length c] w (StatePost B0 P0 G MB vA vE most fr vR vN vO vEn vT nv ov S M l w):=by
 have hB0:B0≤w.heap.size:=Nat.le_trans h.le h.sz
 have hkey:Calls Tryz.prog 96 #[.slice (some ⟨g,0,none⟩) l.length c] w (KeyPost l w):=by
  obtain ⟨g',c',e,h1,h2,h3,h4,h5⟩:=hv
  injection e with e1 e2 e3
  subst e3
  injection e1 with e1
  injection e1 with e1
  subst e1
  exact key_any w.heap.size (some ⟨g,0,none⟩) l.length c l w h5 (Nat.le_refl _) (hP.mono hB0) hl hn
 have hP0:P0≤w.heap.size:=h.sz
 have Hkey:=Lib.hid hkey
 clear hkey
 go_enter Tryz.func63,Tryz.ntmps63
 go_wp2_with fail
 refine Hkey.out.mono ?_
 rintro e w1 ⟨hb1,rfl⟩
 have h1:=h.call hb1
 have hbx:=h1.box
 have hv1:=hv.below hb1
 have c2:=hbx.cell 2
 have c3:=hbx.cell 3
 have c4:=hbx.cell 4
 obtain ⟨nn,D,hown,hnl,htd,hism,hsz,hnd,hks⟩:=h1.num
 have hlk:(keyR l).length≤l.length * 4200:=keyR_len l hl
 have hkl:keyOf Tryz.prog 9 (.string ⟨(keyR l).toArray⟩) = some (.string (keyR l)):=by
  rw [Go.WideMaps.keyOf_string_mk Tryz.underlying9 (show (ByteArray.mk (keyR l).toArray).size≤maxLen from by show (keyR l).toArray.size≤_; rw [List.size_toArray]; unfold maxLen; omega)]
 have hK:=strK.key hkl
 by_cases hmem:keyR l∈S.rows.map keyR
 ·obtain ⟨i,hi,hst⟩:=state_yes most hr (fun x hx => (hl x hx).1) hmem
  have hh:=(hks (keyR l)).1.2 hmem
  have hat0:=(hks (keyR l)).2 i hi
  have hpost:StatePost B0 P0 G MB vA vE most fr vR vN vO vEn vT nv ov S M l w (.returned (.int .i64 (i:Int))) w1:=by
   refine ⟨hb1.mono hB0,fun g hg _ _ _ => hb1.block g hg,?_⟩
   rw [hst]
   exact ⟨rfl,vR,tv,h1.other (fun g _ e => e.elim id (h1.mR g)) (.inl h1.mG) (.inl h1.mM) (fun g e => .inr e) (fun g e => .inl (h1.mN g e)) (fun g e => .inl (h1.mO g e)) (fun g e => .inl (h1.mE g e)) (fun g e => .inl (h1.mT g e)) (fun g hg => .inl (h1.low g hg)),fun g e => .inl e⟩
  have HPost:=Lib.hid hpost
  clear hst hpost hmem hks hi hr hl hv hv1 h hP
  generalize keyR l = kk at *
  go_wp2_with (at_lookup; refine wpList_lookup_own_ok_int _ rfl _ _ 76 rfl 9 3 .i64 strK Tryz.underlying76 Tryz.underlying3 (zero_int _) MB nn D rfl hown _ _ rfl hkl ?_; intro cc hat hwc)
  rw [hat0] at hat
  injection hat with hat
  injection hat with _ hat
  subst hat
  exact bodyPost_ret (v:=.int .i64 (i:Int)) (by simp [results,Tryz.results63,go_sem]) rfl HPost.out
 ·have hst:=state_no (l:=l) most hmem
  have hh:Maps.has D (.string (keyR l)) = false:=by
   rw [← Bool.not_eq_true]; exact fun e => hmem ((hks (keyR l)).1.1 e)
  obtain ⟨Ar,cr,rfl,hcr,hcm,hcb⟩:=own_form h1.oR
  by_cases hfull:most≤S.rows.length
  ·have hpost:StatePost B0 P0 G MB vA vE most fr (.slice Ar S.rows.length cr) vN vO vEn vT nv ov S M l w (faultE 2) w1:=by
     refine ⟨hb1.mono hB0,fun g hg _ _ _ => hb1.block g hg,?_⟩
     rw [hst,if_pos hfull]
   have HPost:=Lib.hid hpost
   have hge:(S.rows.length:Int) ≥ (most:Int):=by omega
   clear hst hpost hmem hks hr hl hv hv1 h hP
   generalize keyR l = kk at *
   generalize S.rows.length = nr at *
   go_wp2_with (at_lookup; refine wpList_lookup_own_ok_int _ rfl _ _ 76 rfl 9 3 .i64 strK Tryz.underlying76 Tryz.underlying3 (zero_int _) MB nn D rfl hown _ _ rfl hkl ?_; intro cc hat hwc)
   exact ⟨rfl,HPost.out⟩
  ·have hlt:¬ (S.rows.length:Int) ≥ (most:Int):=by omega
   have hnn:nn < maxLen:=by rw [List.length_map] at hnl; unfold maxLen; omega
   have hwf:(Lit.int .i64 (S.rows.length:Int)).wf = true:=WalkArith.wf_i64 (by omega)
   have HPut:=Lib.hid (fun (W:World) (ho:W.ownsMap Tryz.prog 9 (plainElem Tryz.prog 3) MB (nn + 1) (D.put (.string (keyR l)) (.lit (.int .i64 (S.rows.length:Int))))) => show Num W MB ((S.rows ++ [l]).map keyR) by
    rw [List.map_append]
    exact num_put hnl htd hism hsz hnd hks (keyR l) hmem hh hK (by rw [List.length_map]; exact ho))
   have HST:=Lib.hid hst
   have HP:=Lib.hid hP
   have HL:=Lib.hid hl
   clear hst hmem hks hr hl h hP
   generalize keyR l = kk at *
   generalize hnr:S.rows.length = nr at *
   have HNR:=Lib.hid hnr
   clear hnr
   go_upto_region 9 with (first | (at_lookup; refine wpList_lookup_own_ok_int _ rfl _ _ 76 rfl 9 3 .i64 strK Tryz.underlying76 Tryz.underlying3 (zero_int _) MB nn D rfl hown _ _ rfl hkl ?_; intro cc hat hwc) | (at_mapUpdate; refine wpList_mapUpdate_own _ rfl _ _ _ 76 rfl 9 3 strK Tryz.underlying76 _ MB nn D rfl hown hnn _ _ (.string kk) rfl rfl hkl _ [] (plainElem_int Tryz.underlying3 hwf) ?_; intro w2 hown2 hgr2))
   have hbx2:=hbx.grown hgr2 (fun e => num_block h1.num hbx (Option.some.inj e))
   have hz1:=hb1.size
   have hz2:=hgr2.size
   have d3:=hbx2.cell 3
   have f3:=hbx2.frozen 3
   have LB:=(Below.refl w2.heap.size w2).alloc (Nat.le_refl _) (.cells #[.slice (some ⟨g,0,none⟩) l.length c] 29)
   have ho0:=h1.oR
   rw [HNR.out] at ho0
   have ho9:=own_below (ho0.kept hgr2 (.inr (num_own h1.num ho0))) LB
   have hbx3:=hbx2.below LB hbx2.lt
   have hrd:=reads_allocK w2 [.slice (some ⟨g,0,none⟩) l.length c] 29 1 1 rfl
   obtain ⟨i0,hi,hy0,hy1,hy2⟩:=info_parts slT_info
   have h63:nr + 1≤maxLen:=by unfold maxLen; omega
   have hby:(nr + 1) * 24≤140737488355328:=by omega
   have hone:∀ u∈[Value.slice (some ⟨g,0,none⟩) l.length c],u.oneCell' = true:=fun u hu => by simp at hu; subst hu; rfl
   have hbase:P0≤(w2.alloc (.cells #[.slice (some ⟨g,0,none⟩) l.length c] 29)).heap.size:=by simp; omega
   have hvl:=fun k (e:(Value.slice Ar nr cr).ownBlock = some k) => own_lt ho0 k e
   have hne:=own_blk ho9 hbx3 (by decide)
   have hfin:∀ (v':Value) (w4:World),w4.ownsRow P0 29 1 v' (nr + 1) (tv ++ [.slice (some ⟨g,0,none⟩) l.length c])→(w2.alloc (.cells #[.slice (some ⟨g,0,none⟩) l.length c] 29)).grownBy w4 (Value.slice Ar nr cr).ownBlock →
       (v'.ownBlock = (Value.slice Ar nr cr).ownBlock∨v'.ownBlock = some (w2.heap.size + 1)) →
       StatePost B0 P0 G MB vA vE most fr (.slice Ar nr cr) vN vO vEn vT nv ov S M l w (.returned (.int .i64 (nr:Int))) (w4.setCell ⟨G,3,none⟩ v'):=by
    intro v' w4 hown hgrow hloc
    have hBe:Below B0 w w4:=((hb1.mono hB0).grown hgr2 (by omega) (fun k hk => by have:=Option.some.inj hk; have:=h1.gM; omega)).trans ((LB.mono (by omega)).grown hgrow (by have:=h1.le; omega) (fun k hk => by have:=(hvl k hk).1; have:=h1.le; omega))
    refine ⟨hBe.setCell (p:=⟨G,3,none⟩) h1.gG _,fun k hk n1 n2 n3 => ?_,?_⟩
    ·rw [Below.heap_setCell _ _ _ _ (show k≠G from n1),hgrow.block k (by simp; omega) (fun e => n3 e.symm),LB.block k (by omega),hgr2.block k (by omega) (fun e => n2 (Option.some.inj e)),hb1.block k hk]
    rw [HST.out,if_neg (by omega)]
    have hnum:=HPut.out w2 hown2
    have hmk:=h1.putR (l:=l) hnum hgr2 LB hv1 (by exact hgrow) (by rw [HNR.out]; exact hown) (by rw [World.size_alloc]; exact hloc)
    refine ⟨rfl,v',_,hmk,fun k hk => ?_⟩
    rcases hloc with e | e
    ·exact .inl (e ▸ hk)
    ·right
     rw [e] at hk
     have:=Option.some.inj hk
     omega
   have HFin:=Lib.hid hfin
   clear hfin hv hv1 HPut HP HL
   go_wp2_with (at_builtin; refine wpList_append_any _ rfl _ _ 68 rfl P0 29 i0 _ 1 24 Tryz.underlying68 hi hy0 hy1 hy2 rfl (by decide) _ _ _ rfl ho9 _ (some ⟨w2.heap.size,0,none⟩) 1 1 [.slice (some ⟨g,0,none⟩) l.length c] rfl hrd hone h63 hby hbase ?_; intro v' w4 hown hgrow hloc; obtain ⟨A4,c4',rfl,_,_,_⟩:=own_form hown; have e3:=(blk_keep hbx3 hgrow hne).cell 3; have e3f:=(blk_keep hbx3 hgrow hne).frozen 3)
   have HQ:=Lib.hid (HFin.out _ w4 hown hgrow (by rw [World.size_alloc] at hloc; exact hloc))
   exact bodyPost_ret (v:=.int .i64 (nr:Int)) (by simp [results,Tryz.results63,go_sem]) rfl HQ.out
end Go.Proofs.YtcondkihpmmnnaaGreatDoor
namespace Go.Proofs.YtcondkihpmmnnaaGreatDoor
open Go.RowKit Go.Sort
theorem once1_sub {α:Type} [DecidableEq α]:∀ l:List α,(once1 l).Sublist l
 | [] => List.Sublist.refl _
 | [x] => List.Sublist.refl _
 | x :: y :: l => by
  unfold once1
  split
  ·exact (once1_sub (y :: l)).cons x
  ·exact (once1_sub (y :: l)).cons_cons x
theorem sortT_up (l:List Tp):(sortT l).Pairwise fun x y => x.st≤y.st:=by
 have h:(sortT l).Pairwise fun x y => (!decide (cmpT y x < 0)) = true:=by
  unfold sortT
  refine List.pairwise_mergeSort (fun a b c h1 h2 => ?_) (fun a b => ?_) l
  ·simp only [Bool.not_eq_true',decide_eq_false_iff_not] at h1 h2 ⊢
   have s1:=ord3_tip.sym a b
   have s2:=ord3_tip.sym b c
   have s3:=ord3_tip.sym a c
   have:=ord3_tip.le a b c (by omega) (by omega)
   omega
  ·simp only [Bool.or_eq_true,Bool.not_eq_true',decide_eq_false_iff_not]
   have s1:=ord3_tip.sym a b
   omega
 refine h.imp fun {x y} h => ?_
 simp only [Bool.not_eq_true',decide_eq_false_iff_not] at h
 apply Decidable.byContradiction
 intro hn
 apply h
 unfold cmpT
 rw [if_pos (by omega)]
 decide
theorem twin_up:∀ l:List Tp,(l.Pairwise fun x y => x.st≤y.st)→twin1 l = false→l.Pairwise fun x y => x.st < y.st
 | [],_,_ => List.Pairwise.nil
 | [x],_,_ => List.pairwise_singleton _ _
 | x :: y :: l,h,ht => by
  unfold twin1 at ht
  rw [Bool.or_eq_false_iff] at ht
  have h2:=twin_up (y :: l) (List.pairwise_cons.1 h).2 ht.2
  have hxy:x.st < y.st:=by
   have h0:=(List.pairwise_cons.1 h).1 y List.mem_cons_self
   have:x.st≠y.st:=by simpa using ht.1
   omega
  refine List.pairwise_cons.2 ⟨fun z hz => ?_,h2⟩
  rcases List.mem_cons.1 hz with rfl | hz
  ·exact hxy
  ·have:=(List.pairwise_cons.1 h2).1 z hz; omega
structure RowG (ns:Nat) (r:List Tp):Prop where
 all:∀ x∈r,0≤x.st∧x.st < (ns:Int)∧x.out.size≤4096
 nodup:(r.map Tp.st).Nodup
theorem RowG.len {ns:Nat} {r:List Tp} (h:RowG ns r):r.length≤ns:=by
 have h1:((r.map Tp.st).map Int.toNat).Nodup:=by
  refine List.Pairwise.map _ (fun a b hab => hab) ?_
  refine (List.pairwise_iff_getElem.2 fun i j hi hj hij => ?_)
  have hne:=(List.pairwise_iff_getElem.1 h.nodup) i j hi hj hij
  rw [List.length_map] at hi hj
  have a1:=h.all r[i] (List.getElem_mem _)
  have a2:=h.all r[j] (List.getElem_mem _)
  rw [List.getElem_map,List.getElem_map] at hne ⊢
  intro e
  exact hne (by omega)
 have h2:((r.map Tp.st).map Int.toNat) ⊆ List.range ns:=fun a ha => by
  rw [List.map_map] at ha
  obtain ⟨x,hx,rfl⟩:=List.mem_map.1 ha
  have:=h.all x hx
  rw [List.mem_range]
  show x.st.toNat < ns
  omega
 have:=List.Nodup.length_le_of_subset h1 h2
 rw [List.length_map,List.length_map,List.length_range] at this
 exact this
theorem strip_rowG {ns:Nat} {l r:List Tp} {f:ByteArray} (h:stripF l = .ok (f,r)) (hl:∀ x∈l,0≤x.st∧x.st < (ns:Int)):RowG ns r:=by
 obtain ⟨h1,h2,h3,h4⟩:=stripF_ok h
 refine ⟨fun y hy => ?_,?_⟩
 ·obtain ⟨x,hx,rfl⟩:=(h3 y).1 hy
  exact ⟨(hl x hx).1,(hl x hx).2,h2 _ hy⟩
 ·have ht:twin1 (ordT l) = false:=by
    rw [← Bool.not_eq_true]
    intro e
    unfold stripF at h
    simp only at h
    rw [if_pos e] at h
    cases h
  have hr:r = (ordT l).map (cutT f.size):=by
   unfold stripF at h
   simp only at h
   rw [if_neg (by rw [ht]; decide)] at h
   split at h
   ·cases h
   split at h
   ·cases h
   injection h with h
   injection h with e1 e2
   rw [← e2,← e1]
  rw [hr,List.map_map]
  have hp:=twin_up (ordT l) ((sortT_up l).sublist (once1_sub _)) ht
  exact List.Pairwise.map _ (fun a b hab => by show a.st≠b.st; omega) hp
theorem strip_len {l r:List Tp} {f:ByteArray} (h:stripF l = .ok (f,r)):r.length≤l.length:=by
 have hr:∃ k,r = (ordT l).map (cutT k):=by
  unfold stripF at h
  simp only at h
  split at h
  ·cases h
  split at h
  ·cases h
  split at h
  ·cases h
  injection h with h
  injection h with e1 e2
  exact ⟨_,e2.symm⟩
 obtain ⟨k,rfl⟩:=hr
 rw [List.length_map]
 have:=(once1_sub (sortT l)).length_le
 unfold ordT
 unfold sortT at this ⊢
 rwa [List.length_mergeSort] at this
theorem strip_ne {l r:List Tp} {f:ByteArray} (h:stripF l = .ok (f,r)) (hl:l≠[]):r≠[]:=by
 obtain ⟨_,_,h3,_⟩:=stripF_ok h
 obtain ⟨x,hx⟩:=List.exists_mem_of_ne_nil _ hl
 exact List.ne_nil_of_mem ((h3 _).2 ⟨x,hx,rfl⟩)
theorem bytesF_stuck {arcs:List Ar} {most:Nat} {l:List Tp} {rows:List (List Tp)} {k:Nat} {e:Int} (h:bytesF arcs most l rows k = .error e):∀ j,bytesF arcs most l rows (k + j) = .error e
 | 0 => h
 | j + 1 => by
  show bytesF arcs most l rows ((k + j) + 1) = _
  unfold bytesF
  rw [bytesF_stuck h j]
theorem bytesF_stuck256 {arcs:List Ar} {most:Nat} {l:List Tp} {rows:List (List Tp)} {k:Nat} {e:Int} (hk:k≤256) (h:bytesF arcs most l rows k = .error e):bytesF arcs most l rows 256 = .error e:=by
 have:=bytesF_stuck h (256 - k)
 rwa [Nat.add_sub_cancel' hk] at this
theorem bytesF_next {arcs:List Ar} {most:Nat} {l:List Tp} {rows:List (List Tp)} {k:Nat} {acc:List (List Tp) × List Int × List ByteArray} (h:bytesF arcs most l rows k = .ok acc):bytesF arcs most l rows (k + 1) = byteF arcs most l k acc:=by
 conv => lhs; unfold bytesF
 rw [h]
def numsV (l:List Int) (n:Nat):Array Value:=(l.map (Value.int .i64) ++ List.replicate (n - l.length) (Value.int .i64 0)).toArray
def textsV (l:List ByteArray) (n:Nat):Array Value:=(l.map Value.string ++ List.replicate (n - l.length) (Value.string ByteArray.empty)).toArray
theorem set_fill {α:Type} (l:List α) (n:Nat) (z x:α) (h:l.length < n):(l ++ List.replicate (n - l.length) z).set l.length x = (l ++ [x]) ++ List.replicate (n - (l ++ [x]).length) z:=by
 rw [List.set_append_right _ _ (Nat.le_refl _),Nat.sub_self,List.length_append,List.length_singleton]
 obtain ⟨m,hm⟩:∃ m,n - l.length = m + 1:=⟨n - l.length - 1,by omega⟩
 rw [hm,List.replicate_succ,List.set_cons_zero,List.append_assoc]
 congr 2
 congr 1
 omega
theorem numsV_set (l:List Int) (n:Nat) (x:Int) (h:l.length < n):(numsV l n).setIfInBounds l.length (.int .i64 x) = numsV (l ++ [x]) n:=by
 unfold numsV
 rw [List.setIfInBounds_toArray]
 congr 1
 have:=set_fill (l.map (Value.int .i64)) n (.int .i64 0) (.int .i64 x) (by rw [List.length_map]; exact h)
 simp only [List.length_map] at this
 rw [this,List.map_append]
 simp
theorem textsV_set (l:List ByteArray) (n:Nat) (x:ByteArray) (h:l.length < n):(textsV l n).setIfInBounds l.length (.string x) = textsV (l ++ [x]) n:=by
 unfold textsV
 rw [List.setIfInBounds_toArray]
 congr 1
 have:=set_fill (l.map Value.string) n (.string ByteArray.empty) (.string x) (by rw [List.length_map]; exact h)
 simp only [List.length_map] at this
 rw [this,List.map_append]
 simp
theorem textsV_skip (l:List ByteArray) (n:Nat) (h:l.length < n):textsV l n = textsV (l ++ [ByteArray.empty]) n:=by
 unfold textsV
 congr 1
 obtain ⟨m,hm⟩:∃ m,n - l.length = m + 1:=⟨n - l.length - 1,by omega⟩
 rw [hm,List.replicate_succ,List.map_append,List.append_assoc]
 congr 2
 rw [List.length_append,List.length_singleton]
 congr 1
 omega
theorem putB_size (a:Ar) (b:Nat):(a.putB b).size≤a.out.size + 1:=by
 have e:=congrArg List.length (bl_app a.out (if a.cp then ⟨#[b.toUInt8]⟩ else ByteArray.empty))
 rw [bl_len,List.length_append,bl_len,bl_len] at e
 show (a.out ++ if a.cp then ⟨#[b.toUInt8]⟩ else ByteArray.empty).size≤_
 rw [e]
 split
 ·exact Nat.le_refl _
 ·exact Nat.le_succ _
theorem numsV_at (l:List Int) (n k:Nat) (h:l.length = k) (hk:k < n):(numsV l n)[k]? = some (.int .i64 0):=by
 unfold numsV
 rw [List.getElem?_toArray,List.getElem?_append_right (by simp; omega)]
 simp only [List.length_map,h,Nat.sub_self]
 rw [List.getElem?_replicate,if_pos (by omega)]
theorem textsV_at (l:List ByteArray) (n k:Nat) (h:l.length = k) (hk:k < n):(textsV l n)[k]? = some (.string ByteArray.empty):=by
 unfold textsV
 rw [List.getElem?_toArray,List.getElem?_append_right (by simp; omega)]
 simp only [List.length_map,h,Nat.sub_self]
 rw [List.getElem?_replicate,if_pos (by omega)]
theorem numsV_last (l:List Int) (n k:Nat) (x:Int) (h:l.length = k):(numsV (l ++ [x]) n)[k]? = some (.int .i64 x):=by
 unfold numsV
 rw [List.getElem?_toArray,List.getElem?_append_left (by simp; omega)]
 simp [← h]
theorem numsV_again (l:List Int) (n:Nat) (x y:Int) (_h:l.length < n):(numsV (l ++ [x]) n).setIfInBounds l.length (.int .i64 y) = numsV (l ++ [y]) n:=by
 unfold numsV
 rw [List.setIfInBounds_toArray]
 congr 1
 simp only [List.map_append,List.map_cons,List.map_nil,List.append_assoc,List.length_append,List.length_singleton]
 rw [List.set_append_right _ _ (by simp)]
 simp
end Go.Proofs.YtcondkihpmmnnaaGreatDoor
