/- Lemmas, part 29 of 39. No condition. -/
import Derived.Test.YtcondkihpmmnnaaGreatDoorUniqueP25
import Derived.Test.YtcondkihpmmnnaaGreatDoorUniqueP15
import Derived.Test.YtcondkihpmmnnaaGreatDoorUniqueP28
import Derived.Test.YtcondkihpmmnnaaGreatDoorUniqueP07
import Derived.Test.YtcondkihpmmnnaaGreatDoorUniqueP16
import Derived.StillTailTactics
import Derived.Deep.RegionWith
namespace Go.Proofs.YtcondkihpmmnnaaGreatDoor
open Go.RowKit Go.Sort Go.Shelf
attribute [local go_sem] Oper.semAt_some
set_option maxRecDepth 100000 in
set_option maxHeartbeats 8000000 in
theorem trim_any (t:Fs) (vt:Value) (B:Nat) (w:World) (HSt:FstAt w B t vt) (hB:B≤w.heap.size) :
    Calls Tryz.prog 27 #[vt] w (TrimPost t w):=by
 have HSt':=HSt
 obtain ⟨A1,c1,A2,c2,A3,c3,rfl,h1,h2,h3,h4,h5,h6,h7,h8,R1,W1,R2,W2,R3,W3⟩:=HSt
 have B0:Below w.heap.size w ((w.alloc (.cells #[.int .i64 t.n,.slice A1 t.starts.length c1,.slice A2 t.ends.length c2,.slice A3 t.arcs.length c3] 32)).alloc (.cells #[.int .i64 0,.slice none 0 0,.slice none 0 0,.slice none 0 0] 32)) :=
  ((Below.refl _ w).alloc (Nat.le_refl _) _).alloc (by simp) _
 have Ja:=(Blk.new w 32 #[.int .i64 t.n,.slice A1 t.starts.length c1,.slice A2 t.ends.length c2,.slice A3 t.arcs.length c3]).alloc (.cells #[.int .i64 0,.slice none 0 0,.slice none 0 0,.slice none 0 0] 32)
 have Jr:=Blk.new (w.alloc (.cells #[.int .i64 t.n,.slice A1 t.starts.length c1,.slice A2 t.ends.length c2,.slice A3 t.arcs.length c3] 32)) 32 #[.int .i64 0,.slice none 0 0,.slice none 0 0,.slice none 0 0]
 simp only [World.size_alloc] at Jr
 have hcka:=fun W (hb:Below w.heap.size w W) => fstCheck_any t _ B W (HSt'.below (hb.mono hB)) (Nat.le_trans hB hb.size)
 have HP1:=Lib.hid (fun w' (hf:fckB t = false) (hb:Below w.heap.size w w') => show TrimPost t w (.returned (.tuple #[.agg #[.int .i64 0,.slice none 0 0,.slice none 0 0,.slice none 0 0],.int .i64 1])) w' from ⟨fs0,1,⟨_,rfl,fst0_at _ _,fst0_new _,hb⟩,fun h => absurd h (by decide),.inr rfl,fun h => by rw [hf] at h; cases h⟩)
 have hck1:=hcka _ B0
 have j0:=Ja.cell 0
 have j1:=Ja.cell 1
 have j2:=Ja.cell 2
 have j3:=Ja.cell 3
 rcases hfa:fckB t with _ | _
 ·rw [hfa] at hck1
  replace hck1:Calls Tryz.prog 20 _ _ (Gives (.int .i64 1) _):=hck1
  have HFA:=Lib.hid hfa
  clear hfa hcka R1 W1 R2 W2 R3 W3
  generalize t.starts.length = n1 at *
  generalize t.ends.length = n2 at *
  generalize t.arcs.length = n3 at *
  refine (callsIn_wide (n:=3)).1 (callsIn_of_wp_marks Tryz.func27 rfl trivial (wpIn_wide.2 ?_) rfl)
  simp only [Tryz.ntmps27,List.size_toArray,List.length_cons,List.length_nil,Nat.reduceAdd,Nat.reduceSub,Array.replicate_succ,Array.replicate_zero,List.push_toArray,List.append_toArray,List.nil_append,List.cons_append]
  go_wp2_with fail
  refine hck1.mono ?_
  rintro e w1 ⟨rfl,HB1⟩
  have Jr1:=Jr.below HB1 Jr.lt
  have hb1:=B0.trans (HB1.mono (by simp; omega))
  have q0:=Jr1.cell 0
  have q1:=Jr1.cell 1
  have q2:=Jr1.cell 2
  have q3:=Jr1.cell 3
  have f0:=Jr1.frozen 0
  have f1:=Jr1.frozen 1
  have f2:=Jr1.frozen 2
  have f3:=Jr1.frozen 3
  clear Ja Jr j0 j1 j2 j3 HB1 B0 hck1
  go_wp2
  exact ⟨.tuple #[.agg #[.int .i64 0,.slice none 0 0,.slice none 0 0,.slice none 0 0],.int .i64 1],by simp [results,Tryz.results27,go_sem,q0,q1,q2,q3],HP1.out _ HFA.out (below_set4 hb1 (by omega) _ _ _ _)⟩
 ·rw [hfa] at hck1
  replace hck1:Calls Tryz.prog 20 _ _ (Gives (.int .i64 0) _):=hck1
  have HFA:=Lib.hid hfa
  obtain ⟨p1,p2,p3,p4,p5⟩:=fck_parts hfa
  obtain ⟨n,hn⟩:∃ n:Nat,t.n = (n:Int):=⟨_,(Int.toNat_of_nonneg p1).symm⟩
  have HN:=Lib.hid hn
  have hn1024:n≤1024:=by omega
  rw [hn] at hck1 j0 Ja Jr B0
  have P3:=Lib.hid p3.2
  have P4:=Lib.hid p4.2
  have P5:=Lib.hid p5.2
  have q3':=p3.1
  have q4':=p4.1
  have q5':=p5.1
  have HW1:=Lib.hid W1
  have HW2:=Lib.hid W2
  have HW3:=Lib.hid W3
  clear hfa hcka W1 W2 W3 p1 p2 p3 p4 p5 HSt' HP1
  show Calls Tryz.prog 27 #[.agg #[.int .i64 t.n,.slice A1 t.starts.length c1,.slice A2 t.ends.length c2,.slice A3 t.arcs.length c3]] w _
  rw [hn]
  clear hn
  generalize hl1:t.starts.length = n1 at *
  generalize hl2:t.ends.length = n2 at *
  generalize hl3:t.arcs.length = n3 at *
  have HL:=Lib.hid (show t.starts.length = n1∧t.ends.length = n2∧t.arcs.length = n3 from ⟨hl1,hl2,hl3⟩)
  clear hl1 hl2 hl3
  obtain ⟨i0,hi,hy0,hy1,hy2⟩:=info_parts slice_info_int
  have hbb:i0.bytes * n≤281474976710656:=by rw [hy2]; omega
  have hmx:n≤maxLen:=by unfold maxLen; omega
  refine (callsIn_wide (n:=3)).1 (callsIn_of_wp_marks Tryz.func27 rfl trivial (wpIn_wide.2 ?_) rfl)
  simp only [Tryz.ntmps27,List.size_toArray,List.length_cons,List.length_nil,Nat.reduceAdd,Nat.reduceSub,Array.replicate_succ,Array.replicate_zero,List.push_toArray,List.append_toArray,List.nil_append,List.cons_append]
  go_wp2_with fail
  refine hck1.mono ?_
  rintro e w1 ⟨rfl,HB1⟩
  have Jr1:=Jr.below HB1 Jr.lt
  have Ja1:=Ja.below HB1 Ja.lt
  have hb1:=B0.trans (HB1.mono (by simp; omega))
  have k0:=Ja1.cell 0
  have hz1:w.heap.size + 1 < w1.heap.size:=Jr1.lt
  clear Ja Jr j0 j1 j2 j3 HB1 B0 hck1
  go_wp2_with (at_make; refine wpList_make_full _ rfl _ _ 55 rfl w1.heap.size 3 i0 _ 1 Tryz.underlying55 hi hy0 hy1 _ _ (n:Int) (n:Int) n rfl rfl rfl rfl hbb hmx (Nat.le_refl _) ?_; intro w2 hown hgr)
  have hgb:=(Below.refl w1.heap.size w1).grown hgr (Nat.le_refl _) (fun k e => by cases e)
  rw [show (Value.int .i64 0).cells = #[Value.int .i64 0] from rfl,Nat.mul_one,toList_madeCells_one] at hown
  have hG:=blk_of_made hown
  rw [← zerV_zero] at hG
  have LB:=(Below.refl w2.heap.size w2).alloc (Nat.le_refl _) (.cells #[.slice (some ⟨w1.heap.size,0,none⟩) n n] 55)
  have HNb:=Blk.new w2 55 #[.slice (some ⟨w1.heap.size,0,none⟩) n n]
  have HG0:=hG.below LB hG.lt
  have Jr2:=(Jr1.below hgb Jr1.lt).below LB (by have:=hgb.size; have:=Jr1.lt; omega)
  have Ja2:=(Ja1.below hgb Ja1.lt).below LB (by have:=hgb.size; have:=Ja1.lt; omega)
  have hb2:=(hb1.trans (hgb.mono hb1.size)).trans (LB.mono (by have:=hb1.size; have:=hgb.size; omega))
  have hz2:w1.heap.size < w2.heap.size:=hG.lt
  clear hown hgr hgb hG LB Jr1 Ja1 hb1 k0 hi hy0 hy1 hy2 hbb
  generalize (w2.alloc (.cells #[.slice (some ⟨w1.heap.size,0,none⟩) n n] 55)) = w3 at *
  generalize w2.heap.size = BN at *
  generalize w1.heap.size = gN at *
  go_loopw [27] (fun i wr => ∃ (k:Nat),k≤n∧i = .int .i64 ((k:Nat):Int)∧Blk wr gN 3 (zerV n k)∧Blk wr BN 55 #[.slice (some ⟨gN,0,none⟩) n n]∧Blk wr w.heap.size 32 #[.int .i64 (n:Int),.slice A1 n1 c1,.slice A2 n2 c2,.slice A3 n3 c3]∧Blk wr (w.heap.size + 1) 32 #[.int .i64 0,.slice none 0 0,.slice none 0 0,.slice none 0 0]∧Below w.heap.size w wr) (fun i _ => n - (intOf i).toNat)
  case atStart => exact ⟨0,Nat.zero_le _,rfl,HG0,HNb,Ja2,Jr2,hb2⟩
  case round =>
   clear HG0 HNb Ja2 Jr2 hb2
   obtain ⟨k,hk,rfl,HG,HNb,Ja,Jr,hb⟩:=hrel
   by_cases hlt:k < n
   ·have hi1:(0:Int)≤(k:Int):=by omega
    have hi2:(k:Int) < (n:Int):=by omega
    have c0:=HNb.cell 0
    have cg:wr.cell? ⟨gN,k,none⟩ = some (.int .i64 0):=by rw [HG.cell]; unfold zerV; simp [hlt]
    have fg:=HG.frozen k
    have HG':=HG.set_ k (.int .i64 (-1))
    rw [zerV_set] at HG'
    have HNb':=HNb.far (p:=⟨gN,k,none⟩) (by show BN≠gN; omega) (.int .i64 (-1))
    have Ja':=Ja.far (p:=⟨gN,k,none⟩) (by show w.heap.size≠gN; omega) (.int .i64 (-1))
    have Jr':=Jr.far (p:=⟨gN,k,none⟩) (by show w.heap.size + 1≠gN; omega) (.int .i64 (-1))
    have hb':=hb.setCell (p:=⟨gN,k,none⟩) (by show w.heap.size≤gN; omega) (.int .i64 (-1))
    clear HG HNb Ja Jr hb
    go_wp2
    go_roundw
    case rel => exact ⟨k + 1,by omega,by go_num,HG',HNb',Ja',Jr',hb'⟩
    case measure => simp [intOf]; omega
   ·obtain rfl:n = k:=by omega
    rw [zerV_all] at HG
    have k0:=Ja.cell 0
    have k1:=Ja.cell 1
    have k2:=Ja.cell 2
    have k3:=Ja.cell 3
    have LB:=(Below.refl wr.heap.size wr).alloc (Nat.le_refl _) (.cells #[.int .i64 0,.slice none 0 0,.slice none 0 0,.slice none 0 0] 32)
    have H6:=Blk.new wr 32 #[.int .i64 0,.slice none 0 0,.slice none 0 0,.slice none 0 0]
    have HT:TrW w (wr.alloc (.cells #[.int .i64 0,.slice none 0 0,.slice none 0 0,.slice none 0 0] 32)) gN BN wr.heap.size n #[.int .i64 (n:Int),.slice A1 n1 c1,.slice A2 n2 c2,.slice A3 n3 c3] [] :=
     ⟨Ja.below LB Ja.lt,Jr.below LB Jr.lt,HNb.below LB HNb.lt,HG.below LB HG.lt,H6,hb.trans (LB.mono hb.size),by have:=Jr.lt; have:=HG.lt; omega,by omega⟩
    have j0:=HT.bt.cell 0
    have j1:=HT.bt.cell 1
    have j2:=HT.bt.cell 2
    have j3:=HT.bt.cell 3
    have hU:=useful_any t A1 A2 A3 n1 c1 n2 c2 n3 c3 B n _ (R3.below (HT.bel.mono hB)) (Nat.le_trans hB HT.bel.size) hn1024 q5' (fun x hx => by
     have:=P5.out x hx
     have e:=HN.out
     exact ⟨this.1,by omega,this.2.2.1,by omega⟩)
    clear Ja Jr HNb HG H6 LB hb k0 k1 k2 k3
    go_wp2_with fail
    refine hU.mono ?_
    rintro e w5 ⟨Bo,Bb,L1,L2,ba,v1,v2,rfl,HUs⟩
    have HT5:=HT.call HUs.bel
    clear hU HT j0 j1 j2 j3
    go_wp2
    have hz6:(wr.alloc (.cells #[.int .i64 0,.slice none 0 0,.slice none 0 0,.slice none 0 0] 32)).heap.size = wr.heap.size + 1:=by simp
    rw [hz6] at HUs
    generalize wr.heap.size = G6 at *
    have hb5:=HT5.bel
    have h6lt:G6 < w5.heap.size:=HT5.b6.lt
    have hNlt:gN < w5.heap.size:=HT5.nN.lt
    have hBlt:BN < w5.heap.size:=HT5.bN.lt
    have hl5:=HT5.l6
    have hn5:=HT5.lN
    have hSt:=useful_stops 2 (by decide) t _ w5 (G6 + 1) Bo Bb L1 L2 n ba A1 A2 A3 n1 c1 n2 c2 n3 c3 v1 v2 HUs
     ((R1.below (hb5.mono hB)).more (Nat.le_trans hB hb5.size)) ((R2.below (hb5.mono hB)).more (Nat.le_trans hB hb5.size)) hn1024
     ⟨by omega,fun x hx => by have:=P3.out x hx; have e:=HN.out; exact ⟨this.1,by omega⟩⟩ ⟨by omega,fun x hx => by have:=P4.out x hx; have e:=HN.out; exact ⟨this.1,by omega⟩⟩ (by have:=HL.out; omega)
     (fun x hx => by have:=P5.out x hx; have e:=HN.out; exact ⟨this.1,by omega,this.2.2.1,by omega⟩)
    refine (wpIn_wide (n:=3)).1 ?_
    refine wpIn_rangeFunc_ownH rfl (by decide) (gf:=91) (lb:=#[.pointer (some ⟨G6 + 1,0,none⟩),.pointer (some ⟨Bo,0,none⟩),.pointer (some ⟨Bb,0,none⟩)]) rfl trivial (enters_of Tryz.func91 (by kernel_rfl) rfl)
     hSt KeepF.trans (fun W l o o' hl hlo hc _ => ⟨by simp,fun k cs T fr _ hk => World.putObj_heap_other (fun e => by subst e; rw [hlo] at hk; cases hk; cases hc)⟩) (Below.refl _ _) (fun _ => rfl)
     (fun pre W => TrW w W gN BN G6 n #[.int .i64 (n:Int),.slice A1 n1 c1,.slice A2 n2 c2,.slice A3 n3 c3] (pre.map Fin.val)) (fun _ _ _ => False) (ownFrom_le TrW.own hb5.size) (fun _ _ _ _ _ hs _ _ => hs) HT5
     (fun x a' W => a' = { tmps:=#[.agg #[.int .i64 (n:Int),.slice A1 n1 c1,.slice A2 n2 c2,.slice A3 n3 c3],.pointer (some ⟨w.heap.size,0,none⟩),.pointer (some ⟨w.heap.size + 1,0,none⟩),.int .i64 0,.pointer (some ⟨BN,0,none⟩),u5,.pointer (some ⟨G6,0,none⟩),.int .i64 ((x.val:Nat):Int),undef,undef,undef,undef,undef,undef,undef,undef,undef,undef,.agg #[.int .i64 (n:Int),.slice A1 n1 c1,.slice A2 n2 c2,.slice A3 n3 c3],.int .i64 0,.bool false,undef,.pointer (some ⟨w.heap.size,0,none⟩),.int .i64 (n:Int),.slice (some ⟨gN,0,none⟩) n n,.slice (some ⟨gN,0,none⟩) n n,.int .i64 (n:Int),.int .i64 (n:Int),.bool false,u29,u30,u31,u32,u33,.agg #[.int .i64 (n:Int),.slice A1 n1 c1,.slice A2 n2 c2,.slice A3 n3 c3],.func (.func 91) #[] #[.pointer (some ⟨G6 + 1,0,none⟩),.pointer (some ⟨Bo,0,none⟩),.pointer (some ⟨Bb,0,none⟩)],.int .i64 ((x.val:Nat):Int),undef,undef,undef,undef,undef,undef,undef,undef,undef,undef,undef,undef,undef,undef,undef,undef,undef,undef,undef,undef,undef,undef,undef,undef,undef,undef,undef,undef,undef,undef,undef,undef,undef,undef,undef,undef,undef,undef,undef,undef,undef,undef,undef,undef,undef,undef,undef,undef,undef,undef,undef,undef,undef,undef,undef,undef,undef,undef,undef,undef,undef,undef,undef,undef,undef,undef,undef,undef,undef,undef,undef,undef,undef,undef,undef,undef,undef,undef,undef,undef,undef,undef,undef,undef,undef,undef,undef,undef,undef,undef,undef,undef,undef,undef,undef,undef,undef,undef,undef],defers:=[] }) (fun _ _ _ _ _ _ hs _ _ => hs) ?assign ?body ?done ?stop
    case assign =>
     intro l pre x W K hI hK
     gi_wp2
     exact hK _ _ (KeepsFrom.refl _ _) ⟨Nat.le_refl _,fun _ _ _ _ _ _ => rfl⟩ hI rfl
    case body =>
     rintro l pre x a' W hl ⟨r,hr⟩ hI rfl hlt
     have hxn:=x.isLt
     have hx1:(0:Int)≤(x.val:Int):=by omega
     have hx2:(x.val:Int) < (n:Int):=by omega
     have hne:gN≠G6:=fun e => by have h1:=hI.nN; have h2:=hI.b6; unfold Blk at h1 h2; rw [e,h2] at h1; injection h1 with h1; injection h1 with _ h1; exact absurd h1 (by decide)
     have hneB:BN≠gN:=fun e => by omega
     have c0:=hI.bN.cell 0
     have c6:=hI.b6.cell 0
     have cg:=numV_cell hI.nN x.val hxn
     have fg:=hI.nN.frozen x.val
     have nN1:=hI.nN.set_ x.val (.int .i64 ((pre.map Fin.val).length:Int))
     rw [numV_set] at nN1
     have b61:=hI.b6.far (p:=⟨gN,x.val,none⟩) (fun e => hne e.symm) (.int .i64 ((pre.map Fin.val).length:Int))
     have bN1:=hI.bN.far (p:=⟨gN,x.val,none⟩) hneB (.int .i64 ((pre.map Fin.val).length:Int))
     have bt1:=hI.bt.far (p:=⟨gN,x.val,none⟩) (by show w.heap.size≠gN; omega) (.int .i64 ((pre.map Fin.val).length:Int))
     have br1:=hI.br.far (p:=⟨gN,x.val,none⟩) (by show w.heap.size + 1≠gN; omega) (.int .i64 ((pre.map Fin.val).length:Int))
     have bel1:=hI.bel.setCell (p:=⟨gN,x.val,none⟩) (by show w.heap.size≤gN; omega) (.int .i64 ((pre.map Fin.val).length:Int))
     rw [List.length_map] at c6 nN1 b61 bN1 bt1 br1 bel1
     have c61:=b61.cell 0
     have f61:=b61.frozen 0
     have hpl:pre.length + 1 < 9223372036854775808:=by omega
     gi_wp2
     refine ⟨((KeepsOthers.setCell _ _ _).trans (KeepsOthers.setCell _ _ _)).from _,⟨by simp,fun k cs T fr hk _ => ?_⟩,?_⟩
     ·rw [Below.heap_setCell _ _ _ _ (show k≠G6 by omega),Below.heap_setCell _ _ _ _ (show k≠gN by omega)]
     ·have b62:=b61.set_ 0 (.int .i64 ((pre.length:Int) + 1))
      have e1:(pre ++ [x]).map Fin.val = pre.map Fin.val ++ [x.val]:=by rw [List.map_append]; rfl
      have e2:(((pre ++ [x]).map Fin.val).length:Int) = (pre.length:Int) + 1:=by simp
      refine ⟨bt1.far (p:=⟨G6,0,none⟩) (by show w.heap.size≠G6; omega) _,br1.far (p:=⟨G6,0,none⟩) (by show w.heap.size + 1≠G6; omega) _,bN1.far (p:=⟨G6,0,none⟩) (hI.bN.ne_ hI.b6 (by decide)) _,?_,?_,bel1.setCell (p:=⟨G6,0,none⟩) (by show w.heap.size≤G6; omega) _,hl5,hn5⟩
      ·rw [e1]; exact nN1.far (p:=⟨G6,0,none⟩) hne _
      ·rw [e2]; exact b62
    case done =>
     rintro D ys W hD hU hI hK
     clear HT5 hSt
     have HU:=Lib.hid hU
     obtain ⟨zs,hzs⟩:∃ zs:List Nat,zs = ys.map Fin.val:=⟨_,rfl⟩
     rw [← hzs] at hI HU
     clear hU hzs
     have hzn:zs.length≤n:=by obtain ⟨p,_,e⟩:=HU.out; rw [e]; exact Nat.le_trans (List.length_filter_le _ _) (by rw [List.length_range]; exact Nat.le_refl _)
     have hDlt:D < W.heap.size:=by rcases Nat.lt_or_ge D W.heap.size with h | h; exact h; rw [Array.getElem?_eq_none h] at hK; cases hK
     have hGne:G6≠D:=fun e => by have:=hI.b6; unfold Blk at this; rw [e,hK] at this; cases this
     have hP:=PutW.new hI.b6 (show w.heap.size≤G6 by omega)
     have hbW:=hI.bel
     have hBt:=hI.bt
     have hBr:=hI.br
     have hBN':=hI.bN
     have hNN:=hI.nN
     have hgN6:=hNN.ne_ hI.b6 (by decide)
     have hBN6:=hBN'.ne_ hI.b6 (by decide)
     have TS1:=R1.below (hbW.mono hB)
     have TS2:=R2.below (hbW.mono hB)
     have TS3:=R3.below (hbW.mono hB)
     have hBG6:B≤G6:=by omega
     have b1:=hBt.cell 1
     clear hI
     go_wp2
     clear b1
     go_loopw [49] (fun i wr => ∃ (k:Nat) (v:Value),k≤n1∧i = .int .i64 ((k:Nat):Int)∧PutW w.heap.size W wr G6 (zs.length:Int) v (.slice none 0 0) (.slice none 0 0) (trT zs (t.starts.take k)) [] []) (fun i _ => n1 - (intOf i).toNat)
     case atStart => exact ⟨0,_,Nat.zero_le _,rfl,hP⟩
     case round =>
      clear hP
      obtain ⟨k,v,hk,rfl,hP⟩:=hrel
      by_cases hlt:k < n1
      ·have hi1:(0:Int)≤(k:Int):=by omega
       have hi2:(k:Int) < (n1:Int):=by omega
       obtain ⟨g,o,rfl,hgB,d0,d1⟩:=tip_cell (TS1.below (hP.bel.mono (Nat.le_trans hB (Nat.le_refl _)))) k hlt
       have hq:=P3.out _ (getD_in t.starts tp0 k (by have:=HL.out; omega))
       have hpre:=trT_next zs t.starts k (by have:=HL.out; omega)
       have hlen:=Nat.le_trans (trT_len zs (t.starts.take k)) (List.length_take_le _ _)
       generalize t.starts.getD k tp0 = q at *
       obtain ⟨qs,qo⟩:=q
       simp only at d0 d1 hq hpre
       obtain ⟨s,rfl⟩:∃ s:Nat,qs = (s:Int):=⟨_,(Int.toNat_of_nonneg hq.1).symm⟩
       rw [Int.toNat_natCast] at hpre
       have hs:s < n:=by have:=HN.out; omega
       have hs1:(0:Int)≤(s:Int):=by omega
       have hs2:(s:Int) < (n:Int):=by omega
       have LB:=(Below.refl wr.heap.size wr).alloc (Nat.le_refl _) (.cells #[.int .i64 (s:Int),.string qo] 54)
       have hP2:=hP.call LB
       have HX:=Blk.new wr 54 #[.int .i64 (s:Int),.string qo]
       have x0:=HX.cell 0
       have x1:=HX.cell 1
       have y0:=(hP2.blk hBN' hBN6).cell 0
       have y1:=numV_cell (hP2.blk hNN hgN6) s hs
       have HPre:=Lib.hid hpre
       have HGE:=Lib.hid (numF_ge zs s)
       clear hpre hP LB
       generalize numF zs s = z at *
       by_cases hz:0≤z
       ·obtain ⟨A0,c0,rfl,u1,u2,u3⟩:=own_form hP2.oS
        have t1:=hP2.t.cell 1
        obtain ⟨i0,hi,hy0,hy1,hy2⟩:=info_parts tip_info
        have hP5:=hP2.call ((Below.refl _ _).alloc (Nat.le_refl _) (.cells #[.int .i64 z,.string qo] 54))
        have hrd:=reads_allocK (wr.alloc (.cells #[.int .i64 (s:Int),.string qo] 54)) [.int .i64 z,.string qo] 54 2 1 rfl
        rw [World.size_alloc] at hrd
        have hoS:=hP5.oS
        have hone:=encT_one ⟨z,qo⟩
        have hsn:trT zs (t.starts.take (k + 1)) = trT zs (t.starts.take k) ++ [⟨z,qo⟩]:=by rw [HPre.out,if_pos hz]
        have HSN:=Lib.hid hsn
        have h63:(trT zs (t.starts.take k)).length + 1≤maxLen:=by unfold maxLen; omega
        have hby:((trT zs (t.starts.take k)).length + 1) * 24≤140737488355328:=by omega
        have hbase:=hP5.size
        clear hsn hP2
        generalize trT zs (t.starts.take k) = S at *
        have hcast:∀ w5 v',World.ownsRow w5 W.heap.size 54 2 v' (S.length + 1) (encs encT S ++ encT ⟨z,qo⟩)→w5.ownsRow W.heap.size 54 2 v' (S ++ [(⟨z,qo⟩:Tp)]).length (encs encT (S ++ [(⟨z,qo⟩:Tp)])):=fun w5 v' h => by rw [encs_snoc,List.length_append]; exact h
        have hne:(54:TypeId)≠32:=by decide
        go_wp2_with (at_builtin; refine wpList_append_any _ rfl _ _ 29 rfl W.heap.size 54 i0 _ 2 24 Tryz.underlying29 hi hy0 hy1 hy2 rfl (by decide) _ _ _ rfl hoS _ (some ⟨wr.heap.size + 1,0,none⟩) 1 1 [.int .i64 z,.string qo] rfl hrd hone h63 hby hbase ?_; intro v' w5 hown hgrow hloc; obtain ⟨A9,c9,hv,hv1,hv2,hv3⟩:=own_form hown; subst hv; have hown2:=hcast _ _ hown; have HWs:=hP5.putS hgrow hown2 hloc; have kt:=blk_keep hP5.t hgrow (own_blk hP5.oS hP5.t hne); have q1:=kt.cell 1; have q2:=kt.frozen 1; clear kt hown hown2 hgrow hloc hv1 hv2 hv3)
        clear hP5 hrd hoS hone hcast hne h63 hby hbase i0 hi hy0 hy1 hy2
        go_roundw
        case rel => exact ⟨k + 1,_,by omega,by go_num,by rw [HSN.out]; exact HWs⟩
        case measure => simp [intOf]; omega
       ·have hz':z < 0:=by omega
        go_wp2
        go_roundw
        case rel => exact ⟨k + 1,v,by omega,by go_num,by rw [HPre.out,if_neg hz,List.append_nil]; exact hP2⟩
        case measure => simp [intOf]; omega
      ·obtain rfl:n1 = k:=by omega
       rw [List.take_of_length_le (by have:=HL.out; omega)] at hP
       obtain ⟨V1,d1,rfl,_,_,_⟩:=own_form hP.oS
       have b2:=(hP.blk hBt (show w.heap.size≠G6 by omega)).cell 2
       generalize hm1:(trT zs t.starts).length = m1 at *
       go_wp2
       clear b2
       go_loopw [73] (fun i wr => ∃ (k:Nat) (v:Value),k≤n2∧i = .int .i64 ((k:Nat):Int)∧PutW w.heap.size W wr G6 (zs.length:Int) (.slice V1 m1 d1) v (.slice none 0 0) (trT zs t.starts) (trT zs (t.ends.take k)) []) (fun i _ => n2 - (intOf i).toNat)
       case atStart => exact ⟨0,_,Nat.zero_le _,rfl,hP⟩
       case round =>
        clear hP
        obtain ⟨k,v,hk,rfl,hP⟩:=hrel
        by_cases hlt:k < n2
        ·have hi1:(0:Int)≤(k:Int):=by omega
         have hi2:(k:Int) < (n2:Int):=by omega
         obtain ⟨g,o,rfl,hgB,d0',d1'⟩:=tip_cell (TS2.below (hP.bel.mono (Nat.le_trans hB (Nat.le_refl _)))) k hlt
         have hq:=P4.out _ (getD_in t.ends tp0 k (by have:=HL.out; omega))
         have hpre:=trT_next zs t.ends k (by have:=HL.out; omega)
         have hlen:=Nat.le_trans (trT_len zs (t.ends.take k)) (List.length_take_le _ _)
         generalize t.ends.getD k tp0 = q at *
         obtain ⟨qs,qo⟩:=q
         simp only at d0' d1' hq hpre
         obtain ⟨s,rfl⟩:∃ s:Nat,qs = (s:Int):=⟨_,(Int.toNat_of_nonneg hq.1).symm⟩
         rw [Int.toNat_natCast] at hpre
         have hs:s < n:=by have:=HN.out; omega
         have hs1:(0:Int)≤(s:Int):=by omega
         have hs2:(s:Int) < (n:Int):=by omega
         have LB:=(Below.refl wr.heap.size wr).alloc (Nat.le_refl _) (.cells #[.int .i64 (s:Int),.string qo] 54)
         have hP2:=hP.call LB
         have HX:=Blk.new wr 54 #[.int .i64 (s:Int),.string qo]
         have x0:=HX.cell 0
         have x1:=HX.cell 1
         have y0:=(hP2.blk hBN' hBN6).cell 0
         have y1:=numV_cell (hP2.blk hNN hgN6) s hs
         have HPre:=Lib.hid hpre
         have HGE:=Lib.hid (numF_ge zs s)
         clear hpre hP LB
         generalize numF zs s = z at *
         by_cases hz:0≤z
         ·obtain ⟨A0,c0,rfl,u1,u2,u3⟩:=own_form hP2.oE
          have t1:=hP2.t.cell 2
          obtain ⟨i0,hi,hy0,hy1,hy2⟩:=info_parts tip_info
          have hP5:=hP2.call ((Below.refl _ _).alloc (Nat.le_refl _) (.cells #[.int .i64 z,.string qo] 54))
          have hrd:=reads_allocK (wr.alloc (.cells #[.int .i64 (s:Int),.string qo] 54)) [.int .i64 z,.string qo] 54 2 1 rfl
          rw [World.size_alloc] at hrd
          have hoE:=hP5.oE
          have hone:=encT_one ⟨z,qo⟩
          have hsn:trT zs (t.ends.take (k + 1)) = trT zs (t.ends.take k) ++ [⟨z,qo⟩]:=by rw [HPre.out,if_pos hz]
          have HSN:=Lib.hid hsn
          have h63:(trT zs (t.ends.take k)).length + 1≤maxLen:=by unfold maxLen; omega
          have hby:((trT zs (t.ends.take k)).length + 1) * 24≤140737488355328:=by omega
          have hbase:=hP5.size
          clear hsn hP2
          generalize trT zs (t.ends.take k) = S at *
          have hcast:∀ w5 v',World.ownsRow w5 W.heap.size 54 2 v' (S.length + 1) (encs encT S ++ encT ⟨z,qo⟩)→w5.ownsRow W.heap.size 54 2 v' (S ++ [(⟨z,qo⟩:Tp)]).length (encs encT (S ++ [(⟨z,qo⟩:Tp)])):=fun w5 v' h => by rw [encs_snoc,List.length_append]; exact h
          have hne:(54:TypeId)≠32:=by decide
          go_wp2_with (at_builtin; refine wpList_append_any _ rfl _ _ 29 rfl W.heap.size 54 i0 _ 2 24 Tryz.underlying29 hi hy0 hy1 hy2 rfl (by decide) _ _ _ rfl hoE _ (some ⟨wr.heap.size + 1,0,none⟩) 1 1 [.int .i64 z,.string qo] rfl hrd hone h63 hby hbase ?_; intro v' w5 hown hgrow hloc; obtain ⟨A9,c9,hv,hv1,hv2,hv3⟩:=own_form hown; subst hv; have hown2:=hcast _ _ hown; have HWs:=hP5.putE hgrow hown2 hloc; have kt:=blk_keep hP5.t hgrow (own_blk hP5.oE hP5.t hne); have q1:=kt.cell 2; have q2:=kt.frozen 2; clear kt hown hown2 hgrow hloc hv1 hv2 hv3)
          clear hP5 hrd hoE hone hcast hne h63 hby hbase i0 hi hy0 hy1 hy2
          go_roundw
          case rel => exact ⟨k + 1,_,by omega,by go_num,by rw [HSN.out]; exact HWs⟩
          case measure => simp [intOf]; omega
         ·have hz':z < 0:=by omega
          go_wp2
          go_roundw
          case rel => exact ⟨k + 1,v,by omega,by go_num,by rw [HPre.out,if_neg hz,List.append_nil]; exact hP2⟩
          case measure => simp [intOf]; omega
        ·obtain rfl:n2 = k:=by omega
         rw [List.take_of_length_le (by have:=HL.out; omega)] at hP
         obtain ⟨V2,d2,rfl,_,_,_⟩:=own_form hP.oE
         have b3:=(hP.blk hBt (show w.heap.size≠G6 by omega)).cell 3
         generalize hm2:(trT zs t.ends).length = m2 at *
         go_wp2
         clear b3
         go_loopw [97] (fun i wr => ∃ (k:Nat) (v:Value),k≤n3∧i = .int .i64 ((k:Nat):Int)∧PutW w.heap.size W wr G6 (zs.length:Int) (.slice V1 m1 d1) (.slice V2 m2 d2) v (trT zs t.starts) (trT zs t.ends) (trA zs (t.arcs.take k))) (fun i _ => n3 - (intOf i).toNat)
         case atStart => exact ⟨0,_,Nat.zero_le _,rfl,hP⟩
         case round =>
          clear hP
          obtain ⟨k,v,hk,rfl,hP⟩:=hrel
          by_cases hlt:k < n3
          ·have hi1:(0:Int)≤(k:Int):=by omega
           have hi2:(k:Int) < (n3:Int):=by omega
           obtain ⟨g,o,rfl,hgB,e0,e1,e2,e3,e4,e5,e6,e7⟩:=arc_cell (TS3.below (hP.bel.mono hB)) k hlt
           have hq:=P5.out _ (getD_in t.arcs ar0 k (by have:=HL.out; omega))
           have hpre:=trA_next zs t.arcs k (by have:=HL.out; omega)
           have hlen:=Nat.le_trans (trA_len zs (t.arcs.take k)) (List.length_take_le _ _)
           generalize t.arcs.getD k ar0 = q at *
           obtain ⟨fr,tt,⟨s1,s2,s3,s4⟩,xo,cp⟩:=q
           simp only at e0 e1 e2 e3 e4 e5 e6 e7 hq hpre
           obtain ⟨s,rfl⟩:∃ s:Nat,fr = (s:Int):=⟨_,(Int.toNat_of_nonneg hq.1).symm⟩
           obtain ⟨u,rfl⟩:∃ u:Nat,tt = (u:Int):=⟨_,(Int.toNat_of_nonneg hq.2.2.1).symm⟩
           rw [Int.toNat_natCast,Int.toNat_natCast] at hpre
           have hs:s < n:=by have:=HN.out; omega
           have hu:u < n:=by have:=HN.out; omega
           have hs1:(0:Int)≤(s:Int):=by omega
           have hs2:(s:Int) < (n:Int):=by omega
           have hu1:(0:Int)≤(u:Int):=by omega
           have hu2:(u:Int) < (n:Int):=by omega
           have LB:=(Below.refl wr.heap.size wr).alloc (Nat.le_refl _) (.cells #[.int .i64 (s:Int),.int .i64 (u:Int),.int .u64 (s1:Int),.int .u64 (s2:Int),.int .u64 (s3:Int),.int .u64 (s4:Int),.string xo,.bool cp] 61)
           have hP2:=hP.call LB
           have HX:=Blk.new wr 61 #[.int .i64 (s:Int),.int .i64 (u:Int),.int .u64 (s1:Int),.int .u64 (s2:Int),.int .u64 (s3:Int),.int .u64 (s4:Int),.string xo,.bool cp]
           have x0:=cell_regrown (HX.cell 0)
           have x1:=cell_regrown (HX.cell 1)
           have y0:=cell_regrown ((hP2.blk hBN' hBN6).cell 0)
           have y1:=cell_regrown (numV_cell (hP2.blk hNN hgN6) s hs)
           have y2:=cell_regrown (numV_cell (hP2.blk hNN hgN6) u hu)
           have HPre:=Lib.hid hpre
           clear hpre hP LB hq
           generalize numF zs s = z at *
           generalize numF zs u = z2 at *
           go_wp2
           clear e0 e1 e2 e3 e4 e5 e6 e7
           refine wp_region_quiet_below (by kernel_rfl) (by kernel_rfl) ?_
           repeat (go_big_quiet_step (fail))
           refine wpQuiet_nil ?_
           intro w5 hw5
           have LB:=below_of hw5
           have hP3:=hP2.call LB
           have HX3:=HX.below LB HX.lt
           clear hw5 x0 x1 y0 y1 y2 hP2 HX LB
           have x2:=HX3.cell 2
           have x3:=HX3.cell 3
           have x4:=HX3.cell 4
           have x5:=HX3.cell 5
           have x6:=HX3.cell 6
           have x7:=HX3.cell 7
           by_cases hz:0≤z
           ·by_cases hz2:0≤z2
            ·obtain ⟨A0,c0,rfl,u1,u2,u3⟩:=own_form hP3.oA
             have t1:=hP3.t.cell 3
             obtain ⟨i0,hi,hy0,hy1,hy2⟩:=info_parts arc_info
             have hP5:=hP3.call ((Below.refl _ _).alloc (Nat.le_refl _) (.cells #[.int .i64 z,.int .i64 z2,.int .u64 (s1:Int),.int .u64 (s2:Int),.int .u64 (s3:Int),.int .u64 (s4:Int),.string xo,.bool cp] 61))
             have hrd:=reads_allocK w5 [.int .i64 z,.int .i64 z2,.int .u64 (s1:Int),.int .u64 (s2:Int),.int .u64 (s3:Int),.int .u64 (s4:Int),.string xo,.bool cp] 61 8 1 rfl
             have hoA:=hP5.oA
             have hone:=encA_one ⟨z,z2,⟨s1,s2,s3,s4⟩,xo,cp⟩
             have hsn:trA zs (t.arcs.take (k + 1)) = trA zs (t.arcs.take k) ++ [⟨z,z2,⟨s1,s2,s3,s4⟩,xo,cp⟩]:=by rw [HPre.out,if_pos ⟨hz,hz2⟩]
             have HSN:=Lib.hid hsn
             have h63:(trA zs (t.arcs.take k)).length + 1≤maxLen:=by unfold maxLen; omega
             have hby:((trA zs (t.arcs.take k)).length + 1) * 72≤140737488355328:=by omega
             have hbase:=hP5.size
             clear hsn hP3
             generalize trA zs (t.arcs.take k) = S at *
             have hcast:∀ w5 v',World.ownsRow w5 W.heap.size 61 8 v' (S.length + 1) (encs encA S ++ encA ⟨z,z2,⟨s1,s2,s3,s4⟩,xo,cp⟩)→w5.ownsRow W.heap.size 61 8 v' (S ++ [(⟨z,z2,⟨s1,s2,s3,s4⟩,xo,cp⟩:Ar)]).length (encs encA (S ++ [(⟨z,z2,⟨s1,s2,s3,s4⟩,xo,cp⟩:Ar)])):=fun w5 v' h => by rw [encs_snoc,List.length_append]; exact h
             have hne:(61:TypeId)≠32:=by decide
             go_wp2_with (at_builtin; refine wpList_append_any _ rfl _ _ 30 rfl W.heap.size 61 i0 _ 8 72 Tryz.underlying30 hi hy0 hy1 hy2 rfl (by decide) _ _ _ rfl hoA _ (some ⟨w5.heap.size,0,none⟩) 1 1 [.int .i64 z,.int .i64 z2,.int .u64 (s1:Int),.int .u64 (s2:Int),.int .u64 (s3:Int),.int .u64 (s4:Int),.string xo,.bool cp] rfl hrd hone h63 hby hbase ?_; intro v' w6 hown hgrow hloc; obtain ⟨A9,c9,hv,hv1,hv2,hv3⟩:=own_form hown; subst hv; have hown2:=hcast _ _ hown; have HWs:=hP5.putA hgrow hown2; have kt:=blk_keep hP5.t hgrow (own_blk hP5.oA hP5.t hne); have q1:=kt.cell 3; have q2:=kt.frozen 3; clear kt hown hown2 hgrow hloc hv1 hv2 hv3)
             clear hP5 hrd hoA hone hcast hne h63 hby hbase i0 hi hy0 hy1 hy2
             go_roundw
             case rel => exact ⟨k + 1,_,by omega,by go_num,by rw [HSN.out]; exact HWs⟩
             case measure => simp [intOf]; omega
            ·have hz2':z2 < 0:=by omega
             go_wp2
             go_roundw
             case rel => exact ⟨k + 1,v,by omega,by go_num,by rw [HPre.out,if_neg (fun h => hz2 h.2),List.append_nil]; exact hP3⟩
             case measure => simp [intOf]; omega
           ·have hz':z < 0:=by omega
            go_wp2
            go_roundw
            case rel => exact ⟨k + 1,v,by omega,by go_num,by rw [HPre.out,if_neg (fun h => hz h.1),List.append_nil]; exact hP3⟩
            case measure => simp [intOf]; omega
          ·obtain rfl:n3 = k:=by omega
           rw [List.take_of_length_le (by have:=HL.out; omega)] at hP
           obtain ⟨V3,d3,rfl,_,_,_⟩:=own_form hP.oA
           have hA8:∀ x∈t.arcs,0≤x.fr∧x.fr < t.n∧0≤x.to∧x.to < t.n∧StW x.set∧x.set≠St.none:=fun x hx => by
            obtain ⟨y1,y2,y3,y4,_,y6⟩:=P5.out x hx
            obtain ⟨_,_,_,_,y5,_⟩:=HW3.out x hx
            exact ⟨y1,y2,y3,y4,y5,y6⟩
           have hTS:=trT_B (zs:=zs) (l:=t.starts) (by have:=HL.out; omega) (fun x hx => (P3.out x hx).2.2)
           have hTE:=trT_B (zs:=zs) (l:=t.ends) (by have:=HL.out; omega) (fun x hx => (P4.out x hx).2.2)
           have hTA:=trA_B (zs:=zs) (l:=t.arcs) (by have:=HL.out; omega) (fun x hx => ⟨(P5.out x hx).2.2.2.2.1,(hA8 x hx).2.2.2.2⟩)
           have hzl:(0:Int)≤(zs.length:Int)∧(zs.length:Int)≤1024:=⟨Int.natCast_nonneg _,by omega⟩
           have hFin:∀ e W9,GF (sortF (trF t zs)) 0 w e W9→TrimPost t w e W9:=fun e W9 h => ⟨_,0,h,fun _ => ⟨HFA.out,fckB_sort hzl hTS hTE hTA,_,trims_of HN.out (fun x hx => ⟨(P3.out x hx).1,(P3.out x hx).2.1⟩) (fun x hx => ⟨(P4.out x hx).1,(P4.out x hx).2.1⟩) hA8 HU.out⟩,.inl rfl,fun _ => rfl⟩
           have HFin:=Lib.hid hFin
           have hFst:=hP.fst (by omega) (fun x hx => by obtain ⟨y1,y2,y3⟩:=hTS.2 x hx; exact ⟨by omega,by omega,by unfold maxLen; omega⟩) (fun x hx => by obtain ⟨y1,y2,y3⟩:=hTE.2 x hx; exact ⟨by omega,by omega,by unfold maxLen; omega⟩)
            (fun x hx => by obtain ⟨y1,y2,y3,y4,y5,y6,_⟩:=hTA.2 x hx; exact ⟨by omega,by omega,by omega,by omega,y6,by unfold maxLen; omega⟩)
           have hSo:=fstSort_any ⟨(zs.length:Int),trT zs t.starts,trT zs t.ends,trA zs t.arcs⟩ _ _ wr hFst (Nat.le_refl _)
           rw [fckB_of hzl hTS hTE hTA,if_pos rfl] at hSo
           replace hSo:Calls Tryz.prog 21 _ wr (GF (sortF (trF t zs)) 0 wr):=hSo
           clear hFst hTS hTE hTA hA8 hFin hzl
           generalize hm3:(trA zs t.arcs).length = m3 at *
           have t0:=hP.t.cell 0
           have t1:=hP.t.cell 1
           have t2:=hP.t.cell 2
           have t3:=hP.t.cell 3
           go_wp2_with fail
           refine hSo.mono ?_
           rintro e w7 ⟨v7,rfl,HF7,HN7,HB7⟩
           obtain ⟨N7,X1,y1,z1,X2,y2,z2,X3,y3,z3,hv7,_,_,_⟩:=id HN7
           subst hv7
           have hszw:=hP.size
           have hbR:=hP.blk hBr (show w.heap.size + 1≠G6 by omega)
           have hbRd:=hbR.below HB7 hbR.lt
           have hKd:w7.heap[D]? = some (.deferred (some [])):=(HB7.block D (by omega)).trans ((hP.keep D hDlt (fun e => hGne e.symm)).trans hK)
           have hbl:=(hbW.trans hP.bel).trans (HB7.mono (by have:=hbW.size; omega))
           have hDr:D≠w.heap.size + 1:=by omega
           have k0:=hbRd.cell 0
           have k1:=hbRd.cell 1
           have k2:=hbRd.cell 2
           have k3:=hbRd.cell 3
           have f0:=hbRd.frozen 0
           have f1:=hbRd.frozen 1
           have f2:=hbRd.frozen 2
           have f3:=hbRd.frozen 3
           clear hSo t0 t1 t2 t3 hP
           have HA4:=Lib.hid (HF7.freshSet4 HN7 (g:=w.heap.size + 1) (by omega) (.int .i64 N7) (.slice X1 y1 z1) (.slice X2 y2 z2) (.slice X3 y3 z3))
           have HNl:=Lib.hid (HN7.less (B':=w.heap.size) (by omega))
           have HN9:=Lib.hid HN7
           have hbR4:=((((hbRd.set_ 0 (.int .i64 N7)).set_ 1 (.slice X1 y1 z1)).set_ 2 (.slice X2 y2 z2)).set_ 3 (.slice X3 y3 z3))
           have hbl4:=below_set4 hbl (g:=w.heap.size + 1) (by omega) (.int .i64 N7) (.slice X1 y1 z1) (.slice X2 y2 z2) (.slice X3 y3 z3)
           have hK4:((((w7.setCell ⟨w.heap.size + 1,0,none⟩ (.int .i64 N7)).setCell ⟨w.heap.size + 1,1,none⟩ (.slice X1 y1 z1)).setCell ⟨w.heap.size + 1,2,none⟩ (.slice X2 y2 z2)).setCell ⟨w.heap.size + 1,3,none⟩ (.slice X3 y3 z3)).heap[D]? = some (.deferred (some [])):=by
            rw [Below.heap_setCell _ _ _ _ hDr,Below.heap_setCell _ _ _ _ hDr,Below.heap_setCell _ _ _ _ hDr,Below.heap_setCell _ _ _ _ hDr]; exact hKd
           have HBR:=Lib.hid hbR4
           have HBL:=Lib.hid hbl4
           have HK4:=Lib.hid hK4
           have hDw:D < wr.heap.size:=by omega
           clear HF7 HN7 hbR hbRd hKd hbl hbR4 hbl4 hK4
           go_wp2
           generalize ((((w7.setCell ⟨w.heap.size + 1,0,none⟩ (.int .i64 N7)).setCell ⟨w.heap.size + 1,1,none⟩ (.slice X1 y1 z1)).setCell ⟨w.heap.size + 1,2,none⟩ (.slice X2 y2 z2)).setCell ⟨w.heap.size + 1,3,none⟩ (.slice X3 y3 z3)) = WF at *
           refine ⟨by simp,.inl ⟨_,_,rfl,run_takeDeferred HK4.out,?_⟩⟩
           have hbF:Blk (WF.putObj D (.deferred none)) (w.heap.size + 1) 32 #[.int .i64 N7,.slice X1 y1 z1,.slice X2 y2 z2,.slice X3 y3 z3]:=(World.putObj_heap_other (Ne.symm hDr)).trans HBR.out
           have g0:=hbF.cell 0
           have g1:=hbF.cell 1
           have g2:=hbF.cell 2
           have g3:=hbF.cell 3
           refine ⟨.tuple #[.agg #[.int .i64 N7,.slice X1 y1 z1,.slice X2 y2 z2,.slice X3 y3 z3],.int .i64 0],by simp [results,Tryz.results27,go_sem,g0,g1,g2,g3],HFin.out _ _ ⟨_,rfl,?_,HNl.out,?_⟩⟩
           ·rw [World.putObj_size]
            have hz9:WF.heap.size = WF.heap.size:=rfl
            refine HA4.out.fresh HN9.out fun p hp _ => ?_
            unfold World.cell?
            rw [World.putObj_heap_other (show p.block≠D by omega)]
           ·exact ⟨HBL.out.os,HBL.out.tape,HBL.out.output,by rw [World.putObj_size]; exact HBL.out.size,fun k hk => (World.putObj_heap_other (show k≠D by omega)).trans (HBL.out.block k hk)⟩
    case stop =>
     rintro D c pre W _ _ h _
     exact h.elim
end Go.Proofs.YtcondkihpmmnnaaGreatDoor
namespace Go.Proofs.YtcondkihpmmnnaaGreatDoor
open Go.RowKit Go.Sort
def OfPost (t:Fs) (most:Int) (w:World) (e:Ending) (w':World):Prop :=
 Below w.heap.size w w'∧∃ v q k,e = .returned (.tuple #[v,.int .i64 k])∧SeqNew w.heap.size w' q v∧(k≠0→q = seq0)∧(¬ (fckB t = true∧1≤most∧most≤1024)→k = 1) ∧
  (fckB t = true→1≤most→most≤1024→∃ u f,Trims t u f∧fckB u = true∧match allF u most.toNat with
   | .error e => k = e
   | .ok q' => k = 0∧q = q')
theorem fck_nums {u:Fs} (h:fckB u = true):0≤u.n∧u.n≤1024∧u.arcs.length≤16384∧u.starts.length≤1024∧u.ends.length≤1024∧(∀ x∈u.starts,0≤x.st∧x.st < u.n∧x.out.size≤1024)∧(∀ x∈u.ends,0≤x.st∧x.st < u.n∧x.out.size≤1024) ∧
    ∀ x∈u.arcs,0≤x.fr∧x.fr < u.n∧0≤x.to∧x.to < u.n∧x.out.size≤1024:=by
 unfold fckB tipsB at h
 simp only [Bool.and_eq_true,decide_eq_true_eq,List.all_eq_true] at h
 obtain ⟨⟨⟨⟨⟨h1,h2⟩,h3⟩,h4,h4'⟩,h5,h5'⟩,h6⟩:=h
 refine ⟨h1,h2,h3,h4,h5,fun x hx => ?_,fun x hx => ?_,fun x hx => ?_⟩
 ·have:=h4' x hx; unfold tipB stB' at this; simp only [Bool.and_eq_true,decide_eq_true_eq] at this; exact ⟨this.1.1,this.1.2,this.2⟩
 ·have:=h5' x hx; unfold tipB stB' at this; simp only [Bool.and_eq_true,decide_eq_true_eq] at this; exact ⟨this.1.1,this.1.2,this.2⟩
 ·have:=h6 x hx; unfold arcB stB' at this; simp only [Bool.and_eq_true,decide_eq_true_eq] at this; exact ⟨this.1.1.1.1,this.1.1.1.2,this.1.1.2.1,this.1.1.2.2,this.2⟩
structure OfW (W4 wr:World) (G MB LA LE n:Nat) (most:Int) (vA vE:List Value) (rA:Nat→List Ar) (rE:Nat→List ByteArray):Prop where
 box:Blk wr G 78 (mkCells (.slice (some ⟨LA,0,none⟩) n n) (.slice (some ⟨LE,0,none⟩) n n) most MB ⟨#[]⟩ (.slice none 0 0) (.slice none 0 0) (.slice none 0 0) (.slice none 0 0) (.slice none 0 0))
 num:Num wr MB []
 gA:Grp encA 8 wr W4.heap.size LA n 30 61 vA rA
 gE:Grp encO 1 wr W4.heap.size LE n 25 9 vE rE
 lG:W4.heap.size≤G
 lM:W4.heap.size≤MB
 bel:Below W4.heap.size W4 wr
section
variable {W4 wr w':World} {G MB LA LE n:Nat} {most:Int} {vA vE:List Value} {rA:Nat→List Ar} {rE:Nat→List ByteArray}
theorem OfW.call (h:OfW W4 wr G MB LA LE n most vA vE rA rE) (hb:Below wr.heap.size wr w'):OfW W4 w' G MB LA LE n most vA vE rA rE :=
 ⟨h.box.below hb h.box.lt,h.num.below hb (Nat.le_refl _),h.gA.call hb,h.gE.call hb,h.lG,h.lM,h.bel.trans (hb.mono h.bel.size)⟩
theorem OfW.lA (h:OfW W4 wr G MB LA LE n most vA vE rA rE):W4.heap.size≤LA∧LA < wr.heap.size:=own_lt h.gA.own LA rfl
theorem OfW.lE (h:OfW W4 wr G MB LA LE n most vA vE rA rE):W4.heap.size≤LE∧LE < wr.heap.size:=own_lt h.gE.own LE rfl
theorem OfW.putA (h:OfW W4 wr G MB LA LE n most vA vE rA rE) (s:Nat) (hs:s < n) {v':Value} (x:Ar) (hg:wr.grownBy w' (vA.getD s nilV).ownBlock) (ho:w'.ownsRow W4.heap.size 61 8 v' ((rA s).length + 1) (encs encA (rA s) ++ encA x)) (hl:v'.ownBlock = (vA.getD s nilV).ownBlock∨v'.ownBlock = some wr.heap.size) :
    OfW W4 (w'.setCell ⟨LA,s,none⟩ v') G MB LA LE n most (vA.set s v') vE (fun t => if t = s then rA s ++ [x] else rA t) rE:=by
 have hr:=h.gA.row s hs
 have kE:=h.gE.kept hg (fun e => apart_types hr h.gE.own (by decide) LE e rfl) (fun t ht => (apart_types (h.gE.row t ht) hr (by decide)).or_none)
 have hbz:=h.bel.size
 refine ⟨(blk_keep h.box hg (own_blk hr h.box (by decide))).far (p:=⟨LA,s,none⟩) (fun e => own_blk h.gA.own h.box (by decide) (by rw [e]; rfl)) _,(num_grown h.num hr hg).setCell (fun e => num_own h.num h.gA.own (by rw [← e]; rfl)) _,h.gA.put (by decide) s hs x hg ho hl,?_,h.lG,h.lM,?_⟩
 ·refine kE.set (p:=⟨LA,s,none⟩) (fun e => apart_types h.gA.own h.gE.own (by decide) LA rfl (by rw [show LE = LA from e.symm]; rfl)) (fun t ht e => ?_) _
  exact apart_types (h.gE.row t ht) h.gA.own (by decide) LA e rfl
 ·exact (h.bel.grown hg hbz (fun k hk => (own_lt hr k hk).1)).setCell (p:=⟨LA,s,none⟩) h.lA.1 _
theorem OfW.putE (h:OfW W4 wr G MB LA LE n most vA vE rA rE) (s:Nat) (hs:s < n) {v':Value} (x:ByteArray) (hg:wr.grownBy w' (vE.getD s nilV).ownBlock) (ho:w'.ownsRow W4.heap.size 9 1 v' ((rE s).length + 1) (encs encO (rE s) ++ encO x)) (hl:v'.ownBlock = (vE.getD s nilV).ownBlock∨v'.ownBlock = some wr.heap.size) :
    OfW W4 (w'.setCell ⟨LE,s,none⟩ v') G MB LA LE n most vA (vE.set s v') rA (fun t => if t = s then rE s ++ [x] else rE t):=by
 have hr:=h.gE.row s hs
 have kA:=h.gA.kept hg (fun e => apart_types hr h.gA.own (by decide) LA e rfl) (fun t ht => (apart_types (h.gA.row t ht) hr (by decide)).or_none)
 have hbz:=h.bel.size
 refine ⟨(blk_keep h.box hg (own_blk hr h.box (by decide))).far (p:=⟨LE,s,none⟩) (fun e => own_blk h.gE.own h.box (by decide) (by rw [e]; rfl)) _,(num_grown h.num hr hg).setCell (fun e => num_own h.num h.gE.own (by rw [← e]; rfl)) _,?_,h.gE.put (by decide) s hs x hg ho hl,h.lG,h.lM,?_⟩
 ·refine kA.set (p:=⟨LE,s,none⟩) (fun e => apart_types h.gA.own h.gE.own (by decide) LE (by rw [show LE = LA from e]; rfl) rfl) (fun t ht e => ?_) _
  exact apart_types (h.gA.row t ht) h.gE.own (by decide) LE e rfl
 ·exact (h.bel.grown hg hbz (fun k hk => (own_lt hr k hk).1)).setCell (p:=⟨LE,s,none⟩) h.lE.1 _
theorem OfW.pA (h:OfW W4 wr G MB LA LE n most vA vE rA rE):GrpP (Old wr.heap.size G MB) encA 8 wr LA n rA :=
 GrpP.of_grp h.gA ⟨h.lA.2,fun e => own_blk h.gA.own h.box (by decide) (by rw [e]; rfl),fun e => num_own h.num h.gA.own (by rw [e]; rfl)⟩ fun s g hs e =>
  ⟨(own_lt (h.gA.row s hs) g e).2,fun e2 => own_blk (h.gA.row s hs) h.box (by decide) (by rw [← e2]; exact e),fun e2 => num_own h.num (h.gA.row s hs) (by rw [← e2]; exact e)⟩
theorem OfW.pE (h:OfW W4 wr G MB LA LE n most vA vE rA rE):GrpP (Old wr.heap.size G MB) encO 1 wr LE n rE :=
 GrpP.of_grp h.gE ⟨h.lE.2,fun e => own_blk h.gE.own h.box (by decide) (by rw [e]; rfl),fun e => num_own h.num h.gE.own (by rw [e]; rfl)⟩ fun s g hs e =>
  ⟨(own_lt (h.gE.row s hs) g e).2,fun e2 => own_blk (h.gE.row s hs) h.box (by decide) (by rw [← e2]; exact e),fun e2 => num_own h.num (h.gE.row s hs) (by rw [← e2]; exact e)⟩
end
theorem below_set5 {B gq:Nat} {w W:World} (h:Below B w W) (hq:B≤gq) (v0 v1 v2 v3 v4:Value):Below B w (((((W.setCell ⟨gq,0,none⟩ v0).setCell ⟨gq,1,none⟩ v1).setCell ⟨gq,2,none⟩ v2).setCell ⟨gq,3,none⟩ v3).setCell ⟨gq,4,none⟩ v4) :=
 ((((h.setCell (p:=⟨gq,0,none⟩) hq _).setCell (p:=⟨gq,1,none⟩) hq _).setCell (p:=⟨gq,2,none⟩) hq _).setCell (p:=⟨gq,3,none⟩) hq _).setCell (p:=⟨gq,4,none⟩) hq _
theorem blk_set5 {gq:Nat} {W:World} {T:TypeId} {c0 c1 c2 c3 c4:Value} (h:Blk W gq T #[c0,c1,c2,c3,c4]) (v0 v1 v2 v3 v4:Value):Blk (((((W.setCell ⟨gq,0,none⟩ v0).setCell ⟨gq,1,none⟩ v1).setCell ⟨gq,2,none⟩ v2).setCell ⟨gq,3,none⟩ v3).setCell ⟨gq,4,none⟩ v4) gq T #[v0,v1,v2,v3,v4] :=
 ((((h.set_ 0 v0).set_ 1 v1).set_ 2 v2).set_ 3 v3).set_ 4 v4
set_option maxRecDepth 100000 in
theorem of_ret {R:Ending→World→Prop} {tmps:Array Value} {gq:Nat} {c0 c1 c2 c3 c4 k:Value} {W:World} (h4:tmps[4]? = some (.pointer (some ⟨gq,0,none⟩))) (h5:tmps[5]? = some k)
    (hq:Blk W gq 27 #[c0,c1,c2,c3,c4]) (h:R (.returned (.tuple #[.agg #[c0,c1,c2,c3,c4],k])) W):bodyPost Tryz.prog Tryz.f10 R Exit.ret ⟨tmps,[]⟩ W:=by
 have q0:=hq.cell 0
 have q1:=hq.cell 1
 have q2:=hq.cell 2
 have q3:=hq.cell 3
 have q4:=hq.cell 4
 exact bodyPost_ret (v:=.tuple #[.agg #[c0,c1,c2,c3,c4],k]) (by simp [results,Tryz.results10,go_sem,q0,q1,q2,q3,q4,h4,h5]) rfl h
theorem own_base {w:World} {base base':Nat} {e:TypeId} {size n:Nat} {v:Value} {xs:List Value} (h:w.ownsRow base e size v n xs) (hb:base'≤base):w.ownsRow base' e size v n xs:=by
 refine ⟨h.1,?_⟩
 rcases h.2 with h0 | ⟨g,cap,cur,hv,hbg,hh,rest⟩
 ·exact .inl h0
 ·exact .inr ⟨g,cap,cur,hv,Nat.le_trans hb hbg,hh,rest⟩
theorem grp_nils {α:Type} {enc:α→List Value} {k:Nat} {w':World} {base L n:Nat} {eL e:TypeId} {rows:Nat→List α} (h:w'.ownsRow base eL 1 (.slice (some ⟨L,0,none⟩) n n) n (List.replicate n nilV)) (hr:∀ s,rows s = []):Grp enc k w' base L n eL e (List.replicate n nilV) rows:=by
 have hv:∀ s,(List.replicate n nilV).getD s nilV = nilV:=by
  intro s
  rw [List.getD_eq_getElem?_getD,List.getElem?_replicate]
  split <;> rfl
 refine ⟨h,fun s _ => ?_,fun s t _ _ _ => ?_⟩
 ·rw [hv,hr]; exact World.ownsRow_nil _ _ _ _
 ·rw [hv,hv]; intro g hg; cases hg
theorem encO_one (x:ByteArray):∀ v∈encO x,v.oneCell' = true:=by
 intro v hv
 simp [encO] at hv
 subst hv; rfl
def arcsK (l:List Ar) (k s:Nat):List Ar:=(l.take k).filter fun a => a.fr == (s:Int)
def endsK (l:List Tp) (k s:Nat):List ByteArray:=((l.take k).filter fun z => z.st == (s:Int)).map Tp.out
theorem arcsK_succ (l:List Ar) (k:Nat) (hk:k < l.length) (s:Nat):arcsK l (k + 1) s = if (s:Int) = (l.getD k ar0).fr then arcsK l k s ++ [l.getD k ar0] else arcsK l k s:=by
 unfold arcsK
 rw [take_next l ar0 k hk,List.filter_append]
 by_cases h:(l.getD k ar0).fr = (s:Int)
 ·rw [if_pos h.symm,List.filter_cons_of_pos (by simpa using h)]; rfl
 ·rw [if_neg (fun x => h x.symm),List.filter_cons_of_neg (by simpa using h)]; simp
theorem endsK_succ (l:List Tp) (k:Nat) (hk:k < l.length) (s:Nat):endsK l (k + 1) s = if (s:Int) = (l.getD k tp0).st then endsK l k s ++ [(l.getD k tp0).out] else endsK l k s:=by
 unfold endsK
 rw [take_next l tp0 k hk,List.filter_append,List.map_append]
 by_cases h:(l.getD k tp0).st = (s:Int)
 ·rw [if_pos h.symm,List.filter_cons_of_pos (by simpa using h)]; rfl
 ·rw [if_neg (fun x => h x.symm),List.filter_cons_of_neg (by simpa using h)]; simp
theorem arcsK_len (l:List Ar) (k s:Nat):(arcsK l k s).length≤l.length:=by
 unfold arcsK
 exact Nat.le_trans (List.length_filter_le _ _) (by rw [List.length_take]; omega)
theorem endsK_len (l:List Tp) (k s:Nat):(endsK l k s).length≤l.length:=by
 unfold endsK
 rw [List.length_map]
 exact Nat.le_trans (List.length_filter_le _ _) (by rw [List.length_take]; omega)
theorem arcsK_all (l:List Ar):arcsK l l.length = arcsO l:=by funext s; unfold arcsK arcsO; rw [List.take_length]
theorem endsK_all (l:List Tp):endsK l l.length = endO l:=by funext s; unfold endsK endO; rw [List.take_length]
end Go.Proofs.YtcondkihpmmnnaaGreatDoor
namespace Go.Proofs.YtcondkihpmmnnaaGreatDoor
open Go.RowKit Go.Sort
set_option maxHeartbeats 400000 in
theorem power_same (n:Nat) (w:World) (hn:n < 64) :
    Calls Tryz.prog 121 #[.int .i64 n] w fun e w' => e = .returned (.int .u64 ((pw n:Nat):Int))∧w' = w:=by
 go_enter Tryz.func121,Tryz.ntmps121
 go_wp2
 go_loop [3,4] (fun p i => ∃ k:Nat,k≤n∧i = .int .i64 k∧p = .int .u64 ((pw k:Nat):Int)) (fun _ i => n - (intOf i).toNat)
 case atStart => exact ⟨0,by omega,rfl,rfl⟩
 case round =>
  obtain ⟨k,hk,rfl,rfl⟩:=hrel
  by_cases hlt:k < n
  ·have E:=Lib.hid (pw_step k (by omega))
   go_wp2
   go_round
   case rel => exact ⟨k + 1,by omega,by go_num,by rw [E.out]⟩
   case measure => simp [intOf]; omega
  ·have:k = n:=by omega
   subst this
   go_wp2
   go_ret
   exact ⟨rfl,rfl⟩
theorem power_any (n:Nat) (w:World) (hn:n < 64) :
    Calls Tryz.prog 121 #[.int .i64 n] w (Gives (.int .u64 ((pw n:Nat):Int)) w) :=
 (power_same n w hn).mono fun _ _ ⟨he,hw⟩ => ⟨he,hw ▸ Below.refl _ _⟩
set_option maxHeartbeats 1000000 in
theorem rhas_any (m:Nat→Bool) (b:Nat) (w:World) (hb:b < 256) :
    Calls Tryz.prog 100 #[.agg #[.int .u64 ((word m 0:Nat):Int),.int .u64 ((word m 1:Nat):Int),.int .u64 ((word m 2:Nat):Int),.int .u64 ((word m 3:Nat):Int)],.int .i64 b] w (Gives (.bool (m b)) w):=by
 have hc:=cell_regrown (set_cell w m 58 (b / 64) (by omega))
 have hp:=pw_pos (b % 64)
 have hp2:((pw (b % 64):Nat):Int)≠0:=by omega
 have hp3:(((pw (b % 64):Nat):Int) == 0) = false:=by rw [beq_eq_false_iff_ne]; omega
 have HP:=power_any (b % 64)
 go_enter Tryz.func100,Tryz.ntmps100
 go_wp2
 refine wp_region_quiet_below (by kernel_rfl) (by kernel_rfl) ?_
 repeat (go_big_quiet_step ((go_at_call 121; exact gives_quiet (HP _ (by omega)))))
 refine wpQuiet_nil ?_
 intro w5 hw5
 have HB5:=below_of hw5
 clear hw5 hc
 go_wp2
 go_ret
 refine ⟨?_,below_then ((Below.refl _ _).alloc (Nat.le_refl _) _) HB5⟩
 simp [word_rhas']
set_option maxRecDepth 100000 in
set_option maxHeartbeats 4000000 in
theorem bytesN_any (m:Nat→Bool) (w:World) :
    Calls Tryz.prog 66 #[.agg #[.int .u64 ((word m 0:Nat):Int),.int .u64 ((word m 1:Nat):Int),.int .u64 ((word m 2:Nat):Int),.int .u64 ((word m 3:Nat):Int)]] w fun e W' => ∃ A n c,e = .returned (.slice A n c)∧n≤256∧Below w.heap.size w W':=by
 obtain ⟨i0,hi0,hz0,hz1,hz2⟩:=info_parts byte_info
 have hbk:=new_blk w m 58
 go_enter Tryz.func66,Tryz.ntmps66
 go_wp2
 go_loopw [3,4] (fun v i wr => ∃ (k:Nat) (l:List Value),k≤256∧i = .int .i64 k∧wr.ownsRow w.heap.size 5 1 v l.length l∧l.length≤k∧Blk wr w.heap.size 58 (sCells m)∧Below w.heap.size w wr) (fun _ i _ => 256 - (intOf i).toNat)
 case atStart => exact ⟨0,[],by omega,rfl,World.ownsRow_nil _ _ _ _,Nat.le_refl _,hbk,(Below.refl _ _).alloc (Nat.le_refl _) _⟩
 case round =>
  clear hbk
  obtain ⟨k,l,hk,rfl,hown,hll,hbs,HB⟩:=hrel
  obtain ⟨Av,cv,rfl,hv1,hv2,hv3⟩:=own_form hown
  by_cases hlt:k < 256
  ·obtain ⟨c0,c1,c2,c3⟩:=hbs.cells4
   have HC:=Lib.hid (fun W => rhas_any m k W hlt)
   have Hown:=Lib.hid hown
   have Hb:=Lib.hid (And.intro hbs HB)
   clear hown hbs HB hv3
   generalize m k = mk at *
   go_wp2_with fail
   refine (HC.out _).mono ?_
   clear HC c0 c1 c2 c3
   rintro e w1 ⟨rfl,HB1⟩
   have hown1:=own_below Hown.out HB1
   have hbs1:=Hb.out.1.below HB1 Hb.out.1.lt
   have L1:=Hb.out.2.trans (HB1.mono Hb.out.2.size)
   rcases mk with _ | _
   ·have HF:=Lib.hid (And.intro hown1 (And.intro hbs1 L1))
    clear hown1 hbs1 L1
    go_wp2
    go_roundw
    case rel => exact ⟨k + 1,l,by omega,by go_num,HF.out.1,by omega,HF.out.2.1,HF.out.2.2⟩
    case measure => simp [intOf]; omega
   ·have hrd:=reads_allocK w1 [.int .u8 (k:Int)] 5 1 1 rfl
    have LA:=(Below.refl w1.heap.size w1).alloc (Nat.le_refl _) (.cells #[.int .u8 (k:Int)] 5)
    have hown2:=own_below hown1 LA
    have hbs2:=hbs1.below LA hbs1.lt
    have L2:=L1.trans (LA.mono L1.size)
    have hone:∀ u∈[Value.int .u8 (k:Int)],u.oneCell' = true:=fun u hu => by rw [List.mem_singleton] at hu; subst hu; rfl
    have h63:l.length + 1≤maxLen:=by unfold maxLen; omega
    have hby:(l.length + 1) * 1≤140737488355328:=by omega
    have hbs:=L2.size
    have HF:=Lib.hid (fun (W:World) (v':Value) (hg:(w1.alloc (.cells #[.int .u8 (k:Int)] 5)).grownBy W (Value.slice Av l.length cv).ownBlock) => And.intro (blk_keep hbs2 hg (own_blk hown2 hbs2 (by decide))) (L2.grown hg L2.size (fun k hk => (own_lt hown2 k hk).1)))
    have Hst:=Lib.hid hown2
    clear hown1 hbs1 L1 LA hbs2 L2
    go_wp2_with (at_builtin; refine wpList_append_any _ rfl _ _ 81 rfl w.heap.size 5 i0 _ 1 1 Tryz.underlying81 hi0 hz0 hz1 hz2 rfl (by decide) _ _ _ rfl hown2 _ (some ⟨w1.heap.size,0,none⟩) 1 1 [.int .u8 (k:Int)] rfl hrd hone h63 hby hbs ?_; intro v' w8 hown8 hgrow hloc)
    go_roundw
    case rel => exact ⟨k + 1,l ++ [.int .u8 (k:Int)],by omega,by go_num,by rw [List.length_append]; exact hown8,by simp; omega,(HF.out _ v' hgrow).1,(HF.out _ v' hgrow).2⟩
    case measure => simp [intOf]; omega
  ·obtain rfl:k = 256:=by omega
   clear hown hbs
   go_wp2
   exact bodyPost_ret (v:=.slice Av l.length cv) (by simp [results,Tryz.results66,go_sem]) rfl ⟨_,_,_,rfl,hll,HB⟩
end Go.Proofs.YtcondkihpmmnnaaGreatDoor
