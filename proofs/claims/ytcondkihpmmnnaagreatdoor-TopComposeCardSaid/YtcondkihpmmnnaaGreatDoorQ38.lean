/- Lemmas, part 38 of 50. No condition. -/
import Derived.Test.YtcondkihpmmnnaaGreatDoorQ34
import Derived.Test.YtcondkihpmmnnaaGreatDoorQ29
import Derived.Test.YtcondkihpmmnnaaGreatDoorQ36
namespace Go.Proofs.YtcondkihpmmnnaaGreatDoor
open Go.RowKit Go.Sort
set_option maxRecDepth 100000 in
set_option maxHeartbeats 8000000 in
theorem reached_any (q:SeqM) (v:Value) (B n:Nat) (w:World) (HS:SeqAt w B q v) (hB:B≤w.heap.size) (hck:ckB q = true) (hn:q.next.length = n) :
    Calls Tryz.prog 70 #[v] w (ReachedPost q n w):=by
 obtain ⟨A1,c1,A2,c2,A3,c3,A4,c4,rfl,hf,l1,l2,l3,l4,m1,m2,m3,m4,R1,hz,R2,hsz,R3,R4,htl⟩:=HS
 obtain ⟨p1,p2,p3,p4,p5,p6⟩:=ck_parts hck
 have HP6:=Lib.hid p6
 have HCk:=Lib.hid (fun s b (hs:s < n) (hb:b < 256) => ckB_nx hck (s:=s) (by rw [hn]; exact hs) hb)
 rw [p2,p3,p4]
 rw [hn] at p1 l1 R1 ⊢
 have Hn:=Lib.hid hn
 generalize q.front = fr at *
 have K:=Blk.new w 27 #[.string fr,.slice A1 n c1,.slice A2 n c2,.slice A3 n c3,.slice A4 n c4]
 have LB:=(Below.refl w.heap.size w).alloc (Nat.le_refl _) (.cells #[.string fr,.slice A1 n c1,.slice A2 n c2,.slice A3 n c3,.slice A4 n c4] 27)
 have hlts:=K.lt
 have k1:=K.cell 1
 obtain ⟨i0,hi,hy0,hy1,hy2⟩:=info_parts bool_infoS
 have hbb:i0.bytes * n≤281474976710656:=by rw [hy2]; omega
 have hmx:n≤maxLen:=by unfold maxLen; omega
 clear R2 R3 R4 hz hsz htl p2 p3 p4 p5 p6 hck hn l2 l3 l4
 go_enter Tryz.func70,Tryz.ntmps70
 go_upto_region 2 with (at_make; refine wpList_make_full _ rfl _ _ 24 rfl (w.alloc (.cells #[.string fr,.slice A1 n c1,.slice A2 n c2,.slice A3 n c3,.slice A4 n c4] 27)).heap.size 4 i0 _ 1 Tryz.underlying24 hi hy0 hy1 _ _ (n:Int) (n:Int) n rfl rfl rfl rfl hbb hmx (Nat.le_refl _) ?_; intro w2 hown hgr)
 have hgb:=(Below.refl (w.alloc (.cells #[.string fr,.slice A1 n c1,.slice A2 n c2,.slice A3 n c3,.slice A4 n c4] 27)).heap.size _).grown hgr (Nat.le_refl _) (fun k e => by cases e)
 rw [show (Value.bool false).cells = #[Value.bool false] from rfl,Nat.mul_one,toList_madeCells_one] at hown
 have hG:=blk_of_made hown
 rw [bV_zero] at hG
 rw [World.size_alloc] at hG hgb
 have K2:=K.below hgb (by simp)
 have LB2:=LB.trans (hgb.mono (by omega))
 have hgs:=hG.lt
 clear hown hgr hgb K LB hi hy0 hy1 hy2 hbb k1
 rcases Nat.eq_zero_or_pos n with rfl | hn0
 ·have HP:=Lib.hid (show ReachedPost q 0 w (.returned (.slice (some ⟨w.heap.size + 1,0,none⟩) 0 0)) w2 from ⟨_,_,rfl,hG,by omega,LB2,fun h => absurd h (Nat.lt_irrefl 0),fun s hs => absurd hs (Nat.not_lt_zero _)⟩)
  go_wp2
  exact bodyPost_ret (v:=.slice (some ⟨w.heap.size + 1,0,none⟩) 0 0) (by simp [results,Tryz.results70,go_sem]) rfl HP.out
 ·have hne:((n:Int) == 0) = false:=by simp; omega
  have LQ:=(Below.refl w2.heap.size w2).alloc (Nat.le_refl _) (.cells #[.int .i64 0] 3)
  have HQ:=OwnQ.of_blk (w:=w2.alloc (.cells #[.int .i64 0] 3)) (base:=w.heap.size) (e:=3) (xs:=[.int .i64 0]) (g:=w2.heap.size) (by omega) (Blk.new w2 3 #[.int .i64 0]) (by unfold maxLen; decide)
  have hG3:=hG.below LQ hG.lt
  have c0:(w2.alloc (.cells #[.int .i64 0] 3)).cell? ⟨w.heap.size + 1,0,none⟩ = some (.bool false):=by rw [hG3.cell]; exact bV_at _ hn0
  have f0:=hG3.frozen 0
  have hW0:ReaW w ((w2.alloc (.cells #[.int .i64 0] 3)).setCell ⟨w.heap.size + 1,0,none⟩ (.bool true)) (w.heap.size + 1) n #[.string fr,.slice A1 n c1,.slice A2 n c2,.slice A3 n c3,.slice A4 n c4] (fun j => if j = 0 then true else false) [0] (.slice (some ⟨w2.heap.size,0,none⟩) 1 1):={
   box:=(K2.below LQ K2.lt).far (p:=⟨w.heap.size + 1,0,none⟩) (by show w.heap.size≠w.heap.size + 1; omega) _
   seen_:=by
    have:=hG3.set_ 0 (.bool true)
    rwa [bV_set _ _ _ _ hn0] at this
   que:=HQ.setCell (q_blk HQ hG3 (by decide)) _
   gS:=by omega
   bel:=(LB2.trans (LQ.mono LB2.size)).setCell (p:=⟨w.heap.size + 1,0,none⟩) (by show w.heap.size≤w.heap.size + 1; omega) _
   first:=rfl
   lt:=fun z hz => by rw [List.mem_singleton] at hz; omega }
  rw [World.setCell_alloc_past _ _ _ _ hgs] at hW0
  have HW0:=Lib.hid hW0
  clear hW0 HQ hG3 LQ hG K2 LB2
  go_wp2
  generalize w.heap.size + 1 = gS at *
  generalize (w2.setCell ⟨gS,0,none⟩ (.bool true)).alloc (.cells #[.int .i64 0] 3) = w3 at *
  clear c0 f0
  go_loopw [4] (fun wv wr => ∃ (seen:Nat→Bool) (xs:List Nat),ReaW w wr gS n #[.string fr,.slice A1 n c1,.slice A2 n c2,.slice A3 n c3,.slice A4 n c4] seen xs wv∧xs.length + offF seen n≤n + 1∧∀ s,s < n→seen s = true→s∈xs∨∀ b,b < 256→0≤q.nx s b→seen (q.nx s b).toNat = true) (fun wv wr => lenOfV wv + offW wr gS n)
  case atStart =>
   exact ⟨fun j => if j = 0 then true else false,[0],HW0.out,by have:=offF_le (fun j => if j = 0 then true else false) n; simp only [List.length_singleton]; omega,fun s _ hs => .inl (by
    by_cases e:s = 0
    ·rw [e]; exact List.mem_singleton.2 rfl
    ·simp [e] at hs)⟩
  case round =>
   clear HW0
   obtain ⟨seen,xs,HR,hpot,hcl⟩:=hrel
   have Hcl:=Lib.hid hcl
   clear hcl
   have hbz:=HR.bel.size
   rcases xs with _ | ⟨s,xs⟩
   ·obtain ⟨g,off,cap,rfl,_,_⟩:=HR.que.form
    have HP:=Lib.hid (show ReachedPost q n w (.returned (.slice (some ⟨gS,0,none⟩) n n)) wr from ⟨gS,seen,rfl,HR.seen_,HR.gS,HR.bel,fun _ => HR.first,fun s hs h => (Hcl.out s hs h).resolve_left (fun e => by cases e)⟩)
    have h00:(qV []).length = 0:=rfl
    clear HR
    go_wp2
    exact bodyPost_ret (v:=.slice (some ⟨gS,0,none⟩) n n) (by simp [results,Tryz.results70,go_sem]) rfl HP.out
   ·have hsn:=HR.lt s List.mem_cons_self
    have hq:=HR.que
    obtain ⟨g,off,cap,hv,hcell⟩:=hq.cell
    obtain ⟨g',off',cap',hv',hcap,hqt,hqt1⟩:=OwnQ.tail (x:=.int .i64 (s:Int)) (xs:=qV xs) hq
    rw [hv] at hv'
    injection hv' with hv1 hv2 hv3
    injection hv1 with hv1
    injection hv1 with hv1 hv1b
    subst hv1 hv1b hv3
    have hc0:wr.cell? ⟨g,off,none⟩ = some (.int .i64 (s:Int)):=hcell 0 _ rfl
    rw [show (qV (s :: xs)).length = xs.length + 1 from by rw [qV_len]; rfl] at hv
    rw [qV_len] at hqt hcap hqt1
    subst hv
    have hi1:(0:Int)≤(s:Int):=by omega
    have hi2:(s:Int) < (n:Int):=by omega
    obtain ⟨g1,o1,A1',d1,rfl,hg1,x0,Q0,y1,z1⟩:=R1.at_ s hsn
    have x1:=((HR.bel.mono hB).cell (p:=⟨g1,o1 + s,none⟩) (by show g1 < B; exact hg1)).trans x0
    have e1:(q.next.map fun r => r.map (Value.int .i64)).getD s [] = (q.next.getD s []).map (Value.int .i64):=by
     rw [List.getD_eq_getElem?_getD,List.getD_eq_getElem?_getD,List.getElem?_map]
     cases q.next[s]? <;> rfl
    rw [e1] at x1 Q0 y1
    simp only [List.length_map] at x1 Q0 y1
    rw [(HP6.out s (by rw [Hn.out]; exact hsn)).1] at x1 Q0 y1
    have HNr:=Lib.hid (fun (W:World) (hb:Below w.heap.size w W) => Q0.below (hb.mono hB))
    clear x0 Q0
    have k1:=HR.box.cell 1
    have hRt:ReaW w wr gS n #[.string fr,.slice (some ⟨g1,o1,none⟩) n c1,.slice A2 n c2,.slice A3 n c3,.slice A4 n c4] seen xs (.slice (some ⟨g,off + 1,none⟩) xs.length (cap - 1)):={ HR with que:=hqt,lt:=fun z hz => HR.lt z (List.mem_cons_of_mem _ hz) }
    have HRt:=Lib.hid hRt
    have HRt1:=Lib.hid (fun (e:cap = 1) => show ReaW w wr gS n #[.string fr,.slice (some ⟨g1,o1,none⟩) n c1,.slice A2 n c2,.slice A3 n c3,.slice A4 n c4] seen xs (.slice (some ⟨g,off,none⟩) xs.length 0) from { HR with que:=hqt1 e,lt:=fun z hz => HR.lt z (List.mem_cons_of_mem _ hz) })
    clear e1 hqt hqt1 hcell hq HR hRt
    have hpot2:xs.length + 1 + offF seen n≤n + 1:=by simpa using hpot
    clear hpot
    generalize hxl:xs.length = xl at *
    have HM0:=Lib.hid (show lenOfV (.slice (some ⟨g,off,none⟩) (xl + 1) cap) + offW wr gS n = xl + 1 + offF seen n by rw [offW_eq HRt.out.seen_]; rfl)
    go_wp2
    all_goals
     clear hc0 x1 k1
     go_loopw [4,33] (fun wv i wq => ∃ (b:Nat) (seen':Nat→Bool) (xs':List Nat) (vv:Value),vv = wv∧b≤256∧i = .int .i64 (b:Int)∧ReaW w wq gS n #[.string fr,.slice (some ⟨g1,o1,none⟩) n c1,.slice A2 n c2,.slice A3 n c3,.slice A4 n c4] seen' xs' vv∧xs'.length + offF seen' n≤xl + offF seen n ∧
      (∀ t,t < n→seen' t = true→t = s∨t∈xs'∨∀ b,b < 256→0≤q.nx t b→seen' (q.nx t b).toNat = true)∧(∀ b',b' < b→0≤q.nx s b'→seen' (q.nx s b').toNat = true)) (fun _ i _ => 256 - (intOf i).toNat)
     case atStart =>
      have hcl0:∀ t,t < n→seen t = true→t = s∨t∈xs∨∀ b,b < 256→0≤q.nx t b→seen (q.nx t b).toNat = true:=fun t ht hs => by
       rcases Hcl.out t ht hs with h | h
       ·rcases List.mem_cons.1 h with h | h
        ·exact .inl h
        ·exact .inr (.inl h)
       ·exact .inr (.inr h)
      first
       | exact ⟨0,seen,xs,_,rfl,Nat.zero_le _,rfl,HRt.out,by omega,hcl0,fun b' h => absurd h (Nat.not_lt_zero _)⟩
       | exact ⟨0,seen,xs,_,rfl,Nat.zero_le _,rfl,HRt1.out (by omega),by omega,hcl0,fun b' h => absurd h (Nat.not_lt_zero _)⟩
     case round =>
      obtain ⟨b,seen',xs',vv,rfl,hb,rfl,HR,hpot',hcl',hdone⟩:=hrel
      have Hcl':=Lib.hid hcl'
      have Hdone:=Lib.hid hdone
      have Hpot':=Lib.hid hpot'
      clear hcl' hdone
      have hbz':=HR.bel.size
      by_cases hlt:b < 256
      ·have hb1:(0:Int)≤(b:Int):=by omega
       have hb2:(b:Int) < 256:=by omega
       obtain ⟨z0,z1',_⟩:=HCk.out s b hsn hlt
       rw [Hn.out] at z1'
       obtain ⟨h1,q1,rfl,hh1,r1⟩:=cell_at (d:=0) (HNr.out wr HR.bel) b hlt
       have hnx:(q.next.getD s []).getD b 0 = q.nx s b:=rfl
       rw [hnx] at r1
       by_cases hneg:q.nx s b < 0
       ·have hd1:=Lib.hid (fun b' (h:b' < b + 1) (h0:0≤q.nx s b') => show seen' (q.nx s b').toNat = true from by
          rcases Nat.lt_or_ge b' b with h | h
          ·exact Hdone.out b' h h0
          ·obtain rfl:b' = b:=by omega
           omega)
        generalize q.nx s b = z at *
        go_wp2
        go_roundw
        case rel => exact ⟨b + 1,seen',xs',vv,rfl,by omega,by go_num,HR,Hpot'.out,Hcl'.out,hd1.out⟩
        case measure => simp [intOf]; omega
       ·obtain ⟨z,hz⟩:∃ z:Nat,q.nx s b = (z:Int):=⟨_,(Int.toNat_of_nonneg (by omega)).symm⟩
        have hzn:z < n:=by omega
        have HZ:=Lib.hid hz
        rw [hz] at r1 hneg
        have hzi1:(0:Int)≤(z:Int):=by omega
        have hzi2:(z:Int) < (n:Int):=by omega
        have u1:wr.cell? ⟨gS,z,none⟩ = some (.bool (seen' z)):=by rw [HR.seen_.cell]; exact bV_at _ hzn
        have u2:=HR.seen_.frozen z
        clear hz
        rcases hsz:seen' z with _ | _
        ·rw [hsz] at u1
         have hoff:=offF_set hzn hsz
         have HRm:=HR.mark z hzn
         have HRa:=HRm.call ((Below.refl (wr.setCell ⟨gS,z,none⟩ (.bool true)).heap.size _).alloc (Nat.le_refl _) (.cells #[.int .i64 (z:Int)] 3))
         have hxa:=(Blk.new (wr.setCell ⟨gS,z,none⟩ (.bool true)) 3 #[.int .i64 (z:Int)]).cell 0
         simp only [World.size_setCell] at hxa
         have hqa:=HRa.que
         have hbsa:=HRa.bel.size
         obtain ⟨i1,t0,t1,t2,t3⟩:=info_parts int_infoS
         have h63:(qV xs').length + 1≤maxLen:=by rw [qV_len]; unfold maxLen; have:=Hpot'.out; omega
         have hby:((qV xs').length + 1) * 8≤140737488355328:=by rw [qV_len]; have:=Hpot'.out; omega
         have hcl2:=Lib.hid (fun t (ht:t < n) (hs:(if t = z then true else seen' t) = true) => show t = s∨t∈xs' ++ [z]∨∀ b,b < 256→0≤q.nx t b→(if (q.nx t b).toNat = z then true else seen' (q.nx t b).toNat) = true from by
          by_cases e:t = z
          ·right; left; rw [e]; simp
          ·rw [if_neg e] at hs
           rcases Hcl'.out t ht hs with h | h | h
           ·exact .inl h
           ·exact .inr (.inl (List.mem_append_left _ h))
           ·right; right
            intro b2 hb2 h0
            rw [h b2 hb2 h0]; simp)
         have hd2:=Lib.hid (fun b' (h:b' < b + 1) (h0:0≤q.nx s b') => show (if (q.nx s b').toNat = z then true else seen' (q.nx s b').toNat) = true from by
          rcases Nat.lt_or_ge b' b with h | h
          ·rw [Hdone.out b' h h0]; simp
          ·obtain rfl:b' = b:=by omega
           rw [HZ.out,Int.toNat_natCast,if_pos rfl])
         clear hsz HR HRm
         go_wp2_with (at_builtin; refine wpList_append_q _ rfl _ _ 55 rfl w.heap.size 3 i1 _ 8 Tryz.underlying55 t0 t1 t2 t3 rfl _ _ rfl hqa wr.heap.size (.int .i64 (z:Int)) rfl hxa rfl h63 hby hbsa ?_; intro v' w5 hown hgrow hloc)
         go_roundw
         case rel =>
          have HRp:=HRa.push hzn hown hgrow
          exact ⟨b + 1,_,xs' ++ [z],_,rfl,by omega,by go_num,HRp,by rw [List.length_append,List.length_singleton]; have:=Hpot'.out; omega,hcl2.out,hd2.out⟩
         case measure => simp [intOf]; omega
        ·rw [hsz] at u1
         have hd1:=Lib.hid (fun b' (h:b' < b + 1) (h0:0≤q.nx s b') => show seen' (q.nx s b').toNat = true from by
          rcases Nat.lt_or_ge b' b with h | h
          ·exact Hdone.out b' h h0
          ·obtain rfl:b' = b:=by omega
           rw [HZ.out,Int.toNat_natCast]; exact hsz)
         clear hsz
         go_wp2
         go_roundw
         case rel => exact ⟨b + 1,seen',xs',vv,rfl,by omega,by go_num,HR,Hpot'.out,Hcl'.out,hd1.out⟩
         case measure => simp [intOf]; omega
      ·obtain rfl:b = 256:=by omega
       have hfin:=Lib.hid (show ∃ (seen:Nat→Bool) (xs:List Nat),ReaW w wr gS n #[.string fr,.slice (some ⟨g1,o1,none⟩) n c1,.slice A2 n c2,.slice A3 n c3,.slice A4 n c4] seen xs vv∧xs.length + offF seen n≤n + 1∧∀ s,s < n→seen s = true→s∈xs∨∀ b,b < 256→0≤q.nx s b→seen (q.nx s b).toNat = true from
        ⟨seen',xs',HR,by have:=Hpot'.out; omega,fun t ht hst => by
         rcases Hcl'.out t ht hst with h | h | h
         ·subst h; exact .inr Hdone.out
         ·exact .inl h
         ·exact .inr h⟩)
       have hms:lenOfV vv + offW wr gS n < xl + 1 + offF seen n:=by
        rw [offW_eq HR.seen_]
        obtain ⟨ga,oa,ca,hva,_⟩:=HR.que.form
        rw [hva,qV_len]
        show xs'.length + _ < _
        have:=Hpot'.out
        omega
       have HMs:=Lib.hid hms
       clear hms
       go_wp2
       exact ⟨hfin.out,by have h1:=HMs.out; have h2:=HM0.out; omega⟩
end Go.Proofs.YtcondkihpmmnnaaGreatDoor
namespace Go.Proofs.YtcondkihpmmnnaaGreatDoor
open Go.RowKit Go.Sort
set_option maxRecDepth 100000 in
set_option maxHeartbeats 4000000 in
theorem put_any (w wr:World) (acc:List UInt8) (t:ByteArray) (HK:KeyW w wr acc) (hP:Pow w w.heap.size) (ht:t.size≤4096) (ha:acc.length≤100000000) :
    Calls Tryz.prog 102 #[.string t,.pointer (some ⟨w.heap.size,0,none⟩)] wr fun e w' => e = .returned (.tuple #[])∧KeyW w w' (acc ++ putT t):=by
 have hPw:=hP
 go_enter Tryz.func102,Tryz.ntmps102
 go_wp2_with fail
 refine (itoa_any t.size (by omega) _ (hPw.below HK.bel)).mono ?_
 rintro e w8 ⟨rfl,hb8⟩
 have HK8:=HK.call hb8
 have hs2:(ByteArray.mk (Lib.decDigits t.size).toArray).size≤5000:=by
  have:=dec_len (u:=t.size) (by omega)
  show (Lib.decDigits t.size).toArray.size≤_
  rw [List.size_toArray]; omega
 have hfin:=Lib.hid (show acc ++ putT t = acc ++ bl (ByteArray.mk (Lib.decDigits t.size).toArray) ++ [58] ++ bl t by rw [bl_mkl]; unfold putT; simp)
 clear HK hb8
 generalize hD2:(ByteArray.mk (Lib.decDigits t.size).toArray) = s2 at *
 go_wp2_with fail
 refine (writeString_any w.heap.size w.heap.size (Lib.byteCells acc) s2 _ HK8.bld (by rw [Lib.byteCells_length]; omega) HK8.bel.size).mono ?_
 rintro e w9 ⟨rfl,hbd,hbw,hkp⟩
 have HK9:=HK8.write s2 hbd hbw
 clear HK8 hbd hbw hkp
 go_wp2_with fail
 refine (writeByte_any w.heap.size w.heap.size (Lib.byteCells (acc ++ bl s2)) 58 _ HK9.bld (by rw [Lib.byteCells_length]; simp only [List.length_append,bl_len]; omega) HK9.bel.size).mono ?_
 rintro e w10 ⟨rfl,hbd,hbw,hkp⟩
 have HK10:=HK9.byte 58 hbd hbw
 clear HK9 hbd hbw hkp
 go_wp2_with fail
 refine (writeString_any w.heap.size w.heap.size (Lib.byteCells (acc ++ bl s2 ++ [58])) t _ HK10.bld (by rw [Lib.byteCells_length]; simp only [List.length_append,bl_len,List.length_singleton]; omega) HK10.bel.size).mono ?_
 rintro e w11 ⟨rfl,hbd,hbw,_⟩
 have HK11:=HK10.write t hbd hbw
 clear HK10 hbd hbw
 rw [← hfin.out] at HK11
 go_wp2
 go_end0
 exact ⟨rfl,HK11⟩
theorem putW (b:Nat) (w wr:World) (acc:List UInt8) (t:ByteArray) (hb:w.heap.size = b) (HK:KeyW w wr acc) (hP:Pow w w.heap.size) (ht:t.size≤4096) (ha:acc.length≤100000000) :
    Calls Tryz.prog 102 #[.string t,.pointer (some ⟨b,0,none⟩)] wr fun e w' => e = .returned (.tuple #[])∧KeyW w w' (acc ++ putT t):=by
 subst hb; exact put_any w wr acc t HK hP ht ha
theorem byteW (b:Nat) (w wr:World) (acc:List UInt8) (c:UInt8) (ci:Int) (hc:ci = (c.toNat:Int)) (hb:w.heap.size = b) (HK:KeyW w wr acc) (ha:acc.length≤100000000) :
    Calls Tryz.prog 104 #[.pointer (some ⟨b,0,none⟩),.int .u8 ci] wr fun e w' => e = .returned .nilIface∧KeyW w w' (acc ++ [c]):=by
 subst hb hc
 refine (writeByte_any w.heap.size w.heap.size (Lib.byteCells acc) (c.toNat:Int) _ HK.bld (by rw [Lib.byteCells_length]; omega) HK.bel.size).mono ?_
 rintro e w' ⟨rfl,hbd,hbw,_⟩
 exact ⟨rfl,HK.byte c hbd hbw⟩
theorem textW (b:Nat) (w wr:World) (acc:List UInt8) (t:ByteArray) (hb:w.heap.size = b) (HK:KeyW w wr acc) (ht:t.size≤100000000) (ha:acc.length≤100000000) :
    Calls Tryz.prog 29 #[.pointer (some ⟨b,0,none⟩),.string t] wr fun e w' => e = .returned (.tuple #[.int .i64 t.size,.nilIface])∧KeyW w w' (acc ++ bl t):=by
 subst hb
 refine (writeString_any w.heap.size w.heap.size (Lib.byteCells acc) t _ HK.bld (by rw [Lib.byteCells_length]; omega) HK.bel.size).mono ?_
 rintro e w' ⟨rfl,hbd,hbw,_⟩
 exact ⟨rfl,HK.write t hbd hbw⟩
theorem allW (b:Nat) (w wr:World) (acc:List UInt8) (hb:w.heap.size = b) (HK:KeyW w wr acc) :
    Calls Tryz.prog 30 #[.pointer (some ⟨b,0,none⟩)] wr fun e w' => e = .returned (.string ⟨acc.toArray⟩)∧Below w.heap.size w w':=by
 subst hb
 refine (Tryz.Builder_String_any_k w.heap.size w.heap.size acc _ HK.bld HK.bel.size).mono ?_
 rintro e w8 ⟨rfl,_,hbw,_⟩
 exact ⟨rfl,HK.bel.trans hbw⟩
end Go.Proofs.YtcondkihpmmnnaaGreatDoor
