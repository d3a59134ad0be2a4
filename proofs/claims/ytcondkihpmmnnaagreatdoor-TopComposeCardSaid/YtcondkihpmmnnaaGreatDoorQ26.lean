/- Lemmas, part 26 of 50. No condition. -/
import Derived.Test.YtcondkihpmmnnaaGreatDoorQ24
import Derived.Test.YtcondkihpmmnnaaGreatDoorQ06
namespace Go.Proofs.YtcondkihpmmnnaaGreatDoor
open Go.RowKit Go.Sort
def arcsO (arcs:List Ar) (s:Nat):List Ar:=arcs.filter fun a => a.fr == (s:Int)
def behS (b:Nat) (xo:ByteArray) (row:List Ar):List Tp:=(row.filter fun a => a.set.m b).map fun a => ⟨a.to,xo ++ a.putB b⟩
theorem behindF_next (arcs:List Ar) (l:List Tp) (b k:Nat) (hk:k < l.length) (s:Nat) (hs:(l.getD k tp0).st = (s:Int)):behindF arcs (l.take (k + 1)) b = behindF arcs (l.take k) b ++ behS b (l.getD k tp0).out (arcsO arcs s):=by
 unfold behindF behS arcsO
 rw [take_next l tp0 k hk,List.flatMap_append,List.flatMap_singleton,hs,List.filter_filter]
 congr 3
 funext a
 exact Bool.and_comm _ _
theorem behS_next (b:Nat) (xo:ByteArray) (row:List Ar) (j:Nat) (hj:j < row.length):behS b xo (row.take (j + 1)) = behS b xo (row.take j) ++ if (row.getD j ar0).set.m b = true then [⟨(row.getD j ar0).to,xo ++ (row.getD j ar0).putB b⟩] else []:=by
 unfold behS
 rw [take_next row ar0 j hj,List.filter_append,List.map_append]
 by_cases h:(row.getD j ar0).set.m b = true
 ·rw [if_pos h,List.filter_cons_of_pos (p:=fun a:Ar => a.set.m b) h]; rfl
 ·rw [if_neg h,List.filter_cons_of_neg (p:=fun a:Ar => a.set.m b) h]; simp
def BehindPost (arcs:List Ar) (l:List Tp) (b:Nat) (w:World) (e:Ending) (w':World):Prop :=
 ∃ v,e = .returned v∧w'.ownsRow w.heap.size 54 2 v (behindF arcs l b).length (encs encT (behindF arcs l b))∧Below w.heap.size w w'
set_option maxRecDepth 100000 in
set_option maxHeartbeats 4000000 in
theorem behind_any (G B:Nat) (A:Option Addr) (n c b:Nat) (arcs:List Ar) (l:List Tp) (w:World) (vE vR vM vN vO vEn vT:Value) (L ns:Nat) (most:Int) (fr:ByteArray) (hG:Blk w G 78 #[.slice (some ⟨L,0,none⟩) ns ns,vE,.int .i64 most,vR,vM,.string fr,vN,vO,vEn,vT])
    (HR:Reads w B 2 A n (encs encT l)) (HA:GrpR encA 8 w B L ns (arcsO arcs)) (hB:B≤w.heap.size) (hGB:G < w.heap.size) (hl:∀ x∈l,0≤x.st∧x.st < (ns:Int)∧x.out.size≤4096) (ha:arcs.length≤16384∧∀ x∈arcs,x.out.size≤1024∧StW x.set) (hn:n≤1024) (_hns:ns≤1024) (hb:b < 256) :
    Calls Tryz.prog 98 #[.pointer (some ⟨G,0,none⟩),.slice A n c,.int .u8 (b:Int)] w (BehindPost arcs l b w):=by
 have hln:=reads_len encT_len (by decide) HR
 have HLN:=Lib.hid hln
 have Hl:=Lib.hid hl
 have HAn:=Lib.hid ha
 clear hln hl ha
 go_enter Tryz.func98,Tryz.ntmps98
 go_wp2
 go_loopw [7,15] (fun rv i wr => ∃ (k:Nat) (v:Value),k≤n∧i = .int .i64 ((k:Nat):Int)∧v = rv∧wr.ownsRow w.heap.size 54 2 v (behindF arcs (l.take k) b).length (encs encT (behindF arcs (l.take k) b))∧(behindF arcs (l.take k) b).length≤k * 16384∧Below w.heap.size w wr) (fun _ i _ => n - (intOf i).toNat)
 case atStart => exact ⟨0,_,Nat.zero_le _,rfl,rfl,World.ownsRow_nil _ _ _ _,Nat.zero_le _,Below.refl _ _⟩
 case round =>
  obtain ⟨k,v,hk,rfl,rfl,hown,hlen,hb0⟩:=hrel
  by_cases hlt:k < n
  ·have hi1:(0:Int)≤(k:Int):=by omega
   have hi2:(k:Int) < (n:Int):=by omega
   obtain ⟨g,o,rfl,hgB,d0,d1⟩:=tip_cell (HR.below (hb0.mono hB)) k hlt
   have hq:=Hl.out _ (getD_in l tp0 k (by have:=HLN.out; omega))
   obtain ⟨x,hx⟩:∃ x:Nat,(l.getD k tp0).st = (x:Int):=⟨_,(Int.toNat_of_nonneg hq.1).symm⟩
   have Hnext:=Lib.hid (behindF_next arcs l b k (by have:=HLN.out; omega) x hx)
   rw [hx] at d0 hq
   generalize (l.getD k tp0).out = xo at *
   have hxn:x < ns:=by omega
   have hx1:(0:Int)≤(x:Int):=by omega
   have hx2:(x:Int) < (ns:Int):=by omega
   obtain ⟨A2,c2,g0,g1,g2,g3⟩:=(HA.below (hb0.mono hB)).2 x hxn
   have hcl:(arcsO arcs x).length≤16384:=Nat.le_trans (List.length_filter_le _ _) HAn.out.1
   have HCS:=Lib.hid (show ∀ z∈arcsO arcs x,z.out.size≤1024∧StW z.set from fun z hz => HAn.out.2 z (List.mem_filter.1 hz).1)
   clear hx
   generalize arcsO arcs x = row at *
   generalize hrl:row.length = rl at *
   have HRL:=Lib.hid hrl
   clear hrl
   have LB:=(Below.refl wr.heap.size wr).alloc (Nat.le_refl _) (.cells #[.int .i64 (x:Int),.string xo] 54)
   have HX:=Blk.new wr 54 #[.int .i64 (x:Int),.string xo]
   have hvx:v.ownBlock≠some wr.heap.size:=fun e => by have:=(own_lt hown _ e).2; omega
   have x0:=cell_regrown (HX.cell 0)
   have hb1:=hb0.trans (LB.mono hb0.size)
   have hG1:=(hG.below hb0 hGB).below LB (by have:=hb0.size; omega)
   have y1:=cell_regrown (hG1.cell 0)
   have y2:=cell_regrown ((LB.cell (p:=⟨L,x,none⟩) (by have:=HA.1; have:=hb0.size; show L < _; omega)).trans g0)
   have R2:=g3.below (LB.mono (Nat.le_trans hB hb0.size))
   have ho1:=own_below hown LB
   have hz1:=hb0.size
   clear LB hb0 g0 g3 hown
   go_wp2
   clear d0 d1
   refine wp_region_quiet_below (by kernel_rfl) (by kernel_rfl) ?_
   repeat (go_big_quiet_step (fail))
   refine wpQuiet_nil ?_
   intro w5 hw5
   have LB:=below_of hw5
   have HX5:=HX.below LB HX.lt
   have hb5:=hb1.trans (LB.mono hb1.size)
   have R5:=R2.below (LB.mono (by simp; omega))
   have ho5:=own_below ho1 LB
   have hz5:wr.heap.size < w5.heap.size:=HX5.lt
   clear hw5 x0 y1 y2 HX hG1 hb1 R2 LB ho1
   generalize wr.heap.size = gX at *
   generalize hS0:behindF arcs (l.take k) b = S0 at *
   have HS0:=Lib.hid hS0
   clear hS0
   go_wp2
   go_loopw [7,28] (fun rv i wv => ∃ (j:Nat) (v:Value) (S:List Tp),j≤rl∧i = .int .i64 ((j:Nat):Int)∧v = rv∧S = S0 ++ behS b xo (row.take j)∧wv.ownsRow w.heap.size 54 2 v S.length (encs encT S)∧S.length≤k * 16384 + j∧Below w.heap.size w wv∧Blk wv gX 54 #[.int .i64 (x:Int),.string xo]∧v.ownBlock≠some gX∧Reads wv B 8 A2 rl (encs encA row)) (fun _ i _ => rl - (intOf i).toNat)
   case atStart => exact ⟨0,v,S0,Nat.zero_le _,rfl,rfl,by simp [behS],ho5,hlen,hb5,HX5,hvx,R5⟩
   case round =>
    clear ho5 HX5 hvx R5 hlen hb5
    obtain ⟨j,v,S,hj,rfl,rfl,hS,hown,hlen,hb5,HX5,hvx,R5⟩:=hrel
    have HS:=Lib.hid hS
    clear hS
    by_cases hlt2:j < rl
    ·have hj1:(0:Int)≤(j:Int):=by omega
     have hj2:(j:Int) < (rl:Int):=by omega
     have hz6:=hb5.size
     obtain ⟨g',o',rfl,hgB',e0,e1,e2,e3,e4,e5,e6,e7⟩:=arc_cell R5 j hlt2
     have hz:=HCS.out _ (getD_in row ar0 j (by have:=HRL.out; omega))
     have Hn2:=Lib.hid (behS_next b xo row j (by have:=HRL.out; omega))
     generalize row.getD j ar0 = q at *
     obtain ⟨af,at',⟨s1,s2,s3,s4⟩,ao,cp⟩:=q
     simp only at e0 e1 e2 e3 e4 e5 e6 e7 hz
     have hH:=fun W => hasS_any ⟨s1,s2,s3,s4⟩ hz.2 b W hb
     have LBa:=(Below.refl wr.heap.size wr).alloc (Nat.le_refl _) (.cells #[.int .i64 af,.int .i64 at',.int .u64 (s1:Int),.int .u64 (s2:Int),.int .u64 (s3:Int),.int .u64 (s4:Int),.string ao,.bool cp] 61)
     have HY:=Blk.new wr 61 #[.int .i64 af,.int .i64 at',.int .u64 (s1:Int),.int .u64 (s2:Int),.int .u64 (s3:Int),.int .u64 (s4:Int),.string ao,.bool cp]
     have u2:=HY.cell 2
     have u3:=HY.cell 3
     have u4:=HY.cell 4
     have u5:=HY.cell 5
     have hb6:=hb5.trans (LBa.mono hz6)
     have HX6:=HX5.below LBa HX5.lt
     have ho6:=own_below hown LBa
     have R6:=R5.below (LBa.mono (Nat.le_trans hB hz6))
     have hgXl:=HX5.lt
     clear HX5 R5 hown hb5 LBa
     go_wp2_with fail
     refine (hH _).mono ?_
     rintro e w6 ⟨rfl,LB6⟩
     have hb7:=hb6.trans (LB6.mono hb6.size)
     have HX7:=HX6.below LB6 HX6.lt
     have HY7:=HY.below LB6 HY.lt
     have ho7:=own_below ho6 LB6
     have R7:=R6.below (LB6.mono (Nat.le_trans hB hb6.size))
     clear e0 e1 e2 e3 e4 e5 e6 e7 u2 u3 u4 u5 HX6 HY ho6 R6 hH
     generalize hm:(⟨s1,s2,s3,s4⟩:St).m b = mb at *
     rcases mb with _ | _
     ·go_wp2
      go_roundw
      case rel => exact ⟨j + 1,v,S,by omega,by go_num,rfl,by rw [Hn2.out,HS.out]; simp,ho7,by omega,hb7,HX7,hvx,R7⟩
      case measure => simp [intOf]; omega
     ·have t1:=HY7.cell 1
      have t6:=HY7.cell 6
      have t7:=HY7.cell 7
      have p1:=HX7.cell 1
      have hxs:xo.size≤4096:=hq.2.2
      have hmx:xo.size + ao.size≤9223372036854775807:=by have:=hz.1; omega
      obtain ⟨Av,cv,rfl,_,_,_⟩:=own_form ho7
      obtain ⟨i0,hi,hy0,hy1,hy2⟩:=info_parts tip_info
      have h63:S.length + 1≤maxLen:=by unfold maxLen; omega
      have hby:(S.length + 1) * 24≤140737488355328:=by omega
      rcases cp with _ | _
      ·have L1:=(Below.refl w6.heap.size w6).alloc (Nat.le_refl _) (.cells #[.int .i64 at',.string (xo ++ ao)] 54)
       have HZ:=Blk.new w6 54 #[.int .i64 at',.string (xo ++ ao)]
       have z0:=HZ.cell 0
       have z1:=HZ.cell 1
       have LL:=L1.alloc L1.size (.cells #[.int .i64 at',.string (xo ++ ao)] 54)
       have hrd:=reads_allocK (w6.alloc (.cells #[.int .i64 at',.string (xo ++ ao)] 54)) [.int .i64 at',.string (xo ++ ao)] 54 2 1 rfl
       rw [World.size_alloc] at hrd
       have ho9:=own_below ho7 LL
       have HX9:=HX7.below LL HX7.lt
       have R9:=R7.below (LL.mono (Nat.le_trans hB hb7.size))
       have hb9:=hb7.trans (LL.mono hb7.size)
       have hone:=encT_one ⟨at',xo ++ ao⟩
       have hbase:=hb9.size
       have hvl:=fun g (e:(Value.slice Av S.length cv).ownBlock = some g) => (own_lt ho7 g e).1
       have HFin:=Lib.hid (fun w7 v' (hown:World.ownsRow w7 w.heap.size 54 2 v' (S.length + 1) (encs encT S ++ encT ⟨at',xo ++ ao⟩)) => show World.ownsRow w7 w.heap.size 54 2 v' (S ++ [(⟨at',xo ++ ao⟩:Tp)]).length (encs encT (S ++ [(⟨at',xo ++ ao⟩:Tp)])) by rw [encs_snoc,List.length_append]; exact hown)
       have t7':=(HY7.below L1 HY7.lt).cell 7
       clear L1 HZ
       go_wp2_with (at_builtin; refine wpList_append_any _ rfl _ _ 29 rfl w.heap.size 54 i0 _ 2 24 Tryz.underlying29 hi hy0 hy1 hy2 rfl (by decide) _ _ _ rfl ho9 _ (some ⟨w6.heap.size + 1,0,none⟩) 1 1 [.int .i64 at',.string (xo ++ ao)] rfl hrd hone h63 hby hbase ?_; intro v' w7 hown hgrow hloc)
       go_roundw
       case rel =>
        obtain ⟨hX0,hne⟩:Blk w7 gX 54 #[.int .i64 (x:Int),.string xo]∧v'.ownBlock≠some gX:=⟨HX9.grown hgrow (fun e => hvx e.symm),fun e => by
         rcases hloc with h | h
         ·exact hvx (h.symm.trans e)
         ·have:=Option.some.inj (h.symm.trans e)
          simp at this
          have:=HX7.lt
          omega⟩
        refine ⟨j + 1,v',S ++ [⟨at',xo ++ ao⟩],by omega,by go_num,rfl,?_,HFin.out w7 v' hown,by simp; omega,hb9.grown hgrow hbase hvl,hX0,hne,R9.keep fun p hp => ?_⟩
        ·rw [Hn2.out,HS.out,if_pos trivial,List.append_assoc]
         have:((⟨af,at',⟨s1,s2,s3,s4⟩,ao,false⟩:Ar).putB b) = ao:=bl_inj (by simp [Ar.putB])
         rw [this]
        ·exact cell_kept (hgrow.block _ (by have:=hb9.size; omega) (fun e => by have:=hvl _ e.symm; omega))
       case measure => simp [intOf]; omega
      ·have L1:=(Below.refl w6.heap.size w6).alloc (Nat.le_refl _) (.cells #[.int .i64 at',.string (xo ++ ao)] 54)
       have HZ:=Blk.new w6 54 #[.int .i64 at',.string (xo ++ ao)]
       have z1:=HZ.cell 1
       have t7':=(HY7.below L1 HY7.lt).cell 7
       have hmx2:(xo ++ ao).size + 1≤9223372036854775807:=by
        have e:=congrArg List.length (bl_app xo ao)
        rw [bl_len,List.length_append,bl_len,bl_len] at e
        omega
       have HBy:=Blk.new (w6.alloc (.cells #[.int .i64 at',.string (xo ++ ao)] 54)) 5 #[.int .u8 (b:Int)]
       rw [World.size_alloc] at HBy
       have hb8:((b.toUInt8.toNat:Nat):Int) = (b:Int):=by simp; omega
       have hcv:=run_convert_bytes_back (P:=Tryz.prog) ((w6.alloc (.cells #[.int .i64 at',.string (xo ++ ao)] 54)).alloc (.cells #[.int .u8 (b:Int)] 5)) 81 9 5 ⟨w6.heap.size + 1,0,none⟩ 1 [b.toUInt8] Tryz.underlying81 Tryz.underlying5 Tryz.underlying9 (fun j hj => by
        obtain rfl:j = 0:=by simp at hj; exact hj
        show _ = some (Value.int .u8 ((b.toUInt8.toNat:Nat):Int))
        rw [hb8]
        exact HBy.cell 0)
       replace hcv:(convert 81 9 (.slice (some ⟨w6.heap.size + 1,0,none⟩) 1 1)).run Tryz.prog ((w6.alloc (.cells #[.int .i64 at',.string (xo ++ ao)] 54)).alloc (.cells #[.int .u8 (b:Int)] 5)) = .ok (.string ⟨#[b.toUInt8]⟩) _:=hcv
       have hmx3:(xo ++ ao).size + (⟨#[b.toUInt8]⟩:ByteArray).size≤9223372036854775807:=hmx2
       obtain ⟨T,hT⟩:∃ T:ByteArray,T = xo ++ ao ++ ⟨#[UInt8.ofNat b]⟩:=⟨_,rfl⟩
       have hT':xo ++ ao ++ ⟨#[b.toUInt8]⟩ = T:=hT.symm
       have M1:=(Below.refl w6.heap.size w6).alloc (Nat.le_refl _) (.cells #[.int .i64 at',.string T] 54)
       have M2:=M1.alloc M1.size (.cells #[.int .u8 (b:Int)] 5)
       have LL:=M2.alloc M2.size (.cells #[.int .i64 at',.string T] 54)
       have hrd:=reads_allocK ((w6.alloc (.cells #[.int .i64 at',.string T] 54)).alloc (.cells #[.int .u8 (b:Int)] 5)) [.int .i64 at',.string T] 54 2 1 rfl
       rw [World.size_alloc,World.size_alloc] at hrd
       have ho9:=own_below ho7 LL
       have HX9:=HX7.below LL HX7.lt
       have R9:=R7.below (LL.mono (Nat.le_trans hB hb7.size))
       have hb9:=hb7.trans (LL.mono hb7.size)
       have hone:=encT_one ⟨at',T⟩
       have hbase:=hb9.size
       have hvl:=fun g (e:(Value.slice Av S.length cv).ownBlock = some g) => (own_lt ho7 g e).1
       have HFin:=Lib.hid (fun w7 v' (hown:World.ownsRow w7 w.heap.size 54 2 v' (S.length + 1) (encs encT S ++ encT ⟨at',T⟩)) => show World.ownsRow w7 w.heap.size 54 2 v' (S ++ [(⟨at',T⟩:Tp)]).length (encs encT (S ++ [(⟨at',T⟩:Tp)])) by rw [encs_snoc,List.length_append]; exact hown)
       have HT:=Lib.hid hT
       subst hT
       clear L1 HZ M1 M2 hT'
       go_wp2_with (at_builtin; refine wpList_append_any _ rfl _ _ 29 rfl w.heap.size 54 i0 _ 2 24 Tryz.underlying29 hi hy0 hy1 hy2 rfl (by decide) _ _ _ rfl ho9 _ (some ⟨w6.heap.size + 1 + 1,0,none⟩) 1 1 [.int .i64 at',.string (xo ++ ao ++ ByteArray.mk #[UInt8.ofNat b])] rfl hrd hone h63 hby hbase ?_; intro v' w7 hown hgrow hloc)
       go_roundw
       case rel =>
        obtain ⟨hX0,hne⟩:Blk w7 gX 54 #[.int .i64 (x:Int),.string xo]∧v'.ownBlock≠some gX:=⟨HX9.grown hgrow (fun e => hvx e.symm),fun e => by
         rcases hloc with h | h
         ·exact hvx (h.symm.trans e)
         ·have:=Option.some.inj (h.symm.trans e)
          simp at this
          have:=HX7.lt
          omega⟩
        refine ⟨j + 1,v',S ++ [⟨at',xo ++ ao ++ ⟨#[UInt8.ofNat b]⟩⟩],by omega,by go_num,rfl,?_,HFin.out w7 v' hown,by simp; omega,hb9.grown hgrow hbase hvl,hX0,hne,R9.keep fun p hp => ?_⟩
        ·rw [Hn2.out,HS.out,if_pos trivial,List.append_assoc]
         have:xo ++ ((⟨af,at',⟨s1,s2,s3,s4⟩,ao,true⟩:Ar).putB b) = xo ++ ao ++ ⟨#[UInt8.ofNat b]⟩:=bl_inj (by simp [Ar.putB])
         rw [this]
        ·exact cell_kept (hgrow.block _ (by have:=hb9.size; omega) (fun e => by have:=hvl _ e.symm; omega))
       case measure => simp [intOf]; omega
    ·obtain rfl:rl = j:=by omega
     go_wp2
     go_roundw
     case rel => exact ⟨k + 1,v,by omega,by go_num,rfl,by rw [Hnext.out,← List.take_of_length_le (l:=row) (Nat.le_of_eq HRL.out),← HS.out]; exact hown,by rw [Hnext.out,← List.take_of_length_le (l:=row) (Nat.le_of_eq HRL.out),← HS.out]; omega,hb5⟩
     case measure => simp [intOf]; omega
  ·obtain rfl:n = k:=by omega
   rw [List.take_of_length_le (by have:=HLN.out; omega)] at hown
   have HP:=Lib.hid (show BehindPost arcs l b w (.returned v) wr from ⟨v,rfl,hown,hb0⟩)
   go_wp2
   exact bodyPost_ret (v:=v) (by simp [results,Tryz.results98,go_sem]) rfl HP.out
end Go.Proofs.YtcondkihpmmnnaaGreatDoor
