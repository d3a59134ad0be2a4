/- Lemmas, part 13 of 39. No condition. -/
import Derived.Test.YtcondkihpmmnnaaGreatDoorUniqueP10
import Derived.Test.YtcondkihpmmnnaaGreatDoorUniqueP12
import Derived.Test.YtcondkihpmmnnaaGreatDoorUniqueP05
import Derived.Test.YtcondkihpmmnnaaGreatDoorUniqueP08
namespace Go.Proofs.YtcondkihpmmnnaaGreatDoor
open Go.RowKit Go.Sort
structure LeavW (w wr:World) (cs:Array Value) (L n:Nat) (vs:List Value) (rows:Nat→List Ar):Prop where
 box:Blk wr w.heap.size 32 cs
 gL:w.heap.size < L
 grp:Grp encA 8 wr (w.heap.size + 1) L n 30 61 vs rows
 bel:Below w.heap.size w wr
section
variable {w wr w':World} {cs:Array Value} {L n:Nat} {vs:List Value} {rows:Nat→List Ar}
theorem LeavW.size (h:LeavW w wr cs L n vs rows):w.heap.size < wr.heap.size:=h.box.lt
theorem LeavW.call (h:LeavW w wr cs L n vs rows) (hb:Below wr.heap.size wr w'):LeavW w w' cs L n vs rows :=
 have hz:=h.size
 ⟨h.box.below hb hz,h.gL,h.grp.call hb,h.bel.trans (hb.mono (by omega))⟩
theorem LeavW.put (h:LeavW w wr cs L n vs rows) (s:Nat) (hs:s < n) {v':Value} (x:Ar) (hg:wr.grownBy w' (vs.getD s nilV).ownBlock)
    (ho:w'.ownsRow (w.heap.size + 1) 61 8 v' ((rows s).length + 1) (encs encA (rows s) ++ encA x)) (hl:v'.ownBlock = (vs.getD s nilV).ownBlock∨v'.ownBlock = some wr.heap.size) :
    LeavW w (w'.setCell ⟨L,s,none⟩ v') cs L n (vs.set s v') (fun t => if t = s then rows s ++ [x] else rows t):=by
 have hz:=h.size
 have gL:=h.gL
 have hr:=h.grp.row s hs
 refine ⟨(blk_keep h.box hg (own_blk hr h.box (by decide))).far (p:=⟨L,s,none⟩) (by simp; omega) _,gL,h.grp.put (by decide) s hs x hg ho hl,?_⟩
 exact ((h.bel).grown hg (by omega) (fun k hk => by have:=(own_lt hr k hk).1; omega)).setCell (p:=⟨L,s,none⟩) (by show w.heap.size≤L; omega) _
end
theorem slArc_info:(Tryz.prog.info? 30).map (fun i => (i.zero,i.size,i.bytes)) = some (some (.slice none 0 0),1,24):=by kernel_rfl
def Held (S:World→Prop):Type:={w:World // S w}
def Held.w {S:World→Prop} (p:Held S):World:=p.1
abbrev HeldIn (S:World→Prop) (w':World):Prop:=∃ p:Held S,w' = p.w
theorem HeldIn.of {S:World→Prop} {w':World} (h:S w'):HeldIn S w':=⟨⟨w',h⟩,rfl⟩
theorem wp_region_hold_at {P:Program} {Q:Exit→Act→World→Prop} {id:Nat} {a:Act} {w:World} {l:List Oper} (S:World→Prop) (n:Nat) (qs fs:List Nat) (hm:P.follows .mixedOrders = true) (hB:holdB .any l.toArray n qs fs = true)
    (hlen:qs.length + fs.length = n) (hin:((qs ++ fs).all fun i => decide (i < l.length)) = true) (hS:S w.drew)
    (h:wpQuiet P l.toArray (fun w' => ∃ p:Held S,w' = p.w) (fun a' => wpForce P l.toArray (fun w' => ∃ p:Held S,w' = p.w) (NoPanic Q) (l.drop n) (pickOps l fs) a' w.drew) (pickOps l qs) a) :
    (Code.region id l.toArray true).wp P Q a w:=by
 rw [List.all_append,Bool.and_eq_true] at hin
 refine wp_region_noPanic ?_
 exact wp_region_hold (fun w' => ∃ p:Held S,w' = p.w) n qs fs _ _ hm hB hlen (pickOps_map l qs hin.1) (pickOps_map l fs hin.2) (fun _ _ _ _ _ h => h) ⟨⟨_,hS⟩,rfl⟩ h
theorem grp_made {w':World} {base L n:Nat} {eL e:TypeId} (h:w'.ownsRow base eL 1 (.slice (some ⟨L,0,none⟩) n n) n (List.replicate n nilV)):Grp encA 8 w' base L n eL e (List.replicate n nilV) (fun _ => []):=by
 have hv:∀ s,(List.replicate n nilV).getD s nilV = nilV:=by
  intro s
  rw [List.getD_eq_getElem?_getD,List.getElem?_replicate]
  split <;> rfl
 refine ⟨h,fun s _ => ?_,fun s t _ _ _ => ?_⟩
 ·rw [hv]; exact World.ownsRow_nil _ _ _ _
 ·rw [hv,hv]; intro g hg; cases hg
set_option maxRecDepth 100000 in
set_option maxHeartbeats 8000000 in
theorem leaving_any (t:Fs) (v:Value) (B:Nat) (w:World) (HS:FstAt w B t v) (hB:B≤w.heap.size) (n:Nat) (hn:t.n = (n:Int)) (hn1:n≤1024) (hal:t.arcs.length≤16384) (hfr:∀ k,k < t.arcs.length→0≤(t.arcs.getD k ar0).fr∧(t.arcs.getD k ar0).fr < n) :
    Calls Tryz.prog 23 #[v] w fun e w' => ∃ L vs,e = .returned (.slice (some ⟨L,0,none⟩) n n)∧w.heap.size < L∧Grp encA 8 w' (w.heap.size + 1) L n 30 61 vs (leavS t.arcs t.arcs.length)∧Below w.heap.size w w':=by
 obtain ⟨A1,c1,A2,c2,A3,c3,rfl,h1,h2,h3,h4,h5,h6,h7,h8,R1,W1,R2,W2,R3,W3⟩:=HS
 have R3':=R3.more hB
 clear R1 R2 R3 W1 W2 W3
 unfold maxLen at *
 rw [hn]
 generalize t.starts.length = n1 at *
 generalize t.ends.length = n2 at *
 have Hfr:=Lib.hid hfr
 have hM:t.arcs.length = t.arcs.length:=rfl
 generalize hm:t.arcs.length = m at *
 have Hm:=Lib.hid hm
 clear hm hfr hM
 obtain ⟨i0,hi,hy0,hy1,hy2⟩:=info_parts slArc_info
 have hb2:i0.bytes * n≤281474976710656:=by rw [hy2]; omega
 have hmx:n≤maxLen:=by unfold maxLen; omega
 have H0:=Blk.new w 32 #[.int .i64 n,.slice A1 n1 c1,.slice A2 n2 c2,.slice A3 m c3]
 have B0:Below w.heap.size w (w.alloc (.cells #[.int .i64 n,.slice A1 n1 c1,.slice A2 n2 c2,.slice A3 m c3] 32)):=(Below.refl _ w).alloc (Nat.le_refl _) _
 have hbase:w.heap.size + 1≤(w.alloc (.cells #[.int .i64 n,.slice A1 n1 c1,.slice A2 n2 c2,.slice A3 m c3] 32)).heap.size:=by simp
 have hmk:∀ w1,w1.ownsRow (w.heap.size + 1) 30 1 (.slice (some ⟨(w.alloc (.cells #[.int .i64 n,.slice A1 n1 c1,.slice A2 n2 c2,.slice A3 m c3] 32)).heap.size,0,none⟩) n n) n (madeCells (Value.slice none 0 0).cells (n * 1)).toList →
     (w.alloc (.cells #[.int .i64 n,.slice A1 n1 c1,.slice A2 n2 c2,.slice A3 m c3] 32)).grownBy w1 none →
     LeavW w w1 #[.int .i64 n,.slice A1 n1 c1,.slice A2 n2 c2,.slice A3 m c3] (w.alloc (.cells #[.int .i64 n,.slice A1 n1 c1,.slice A2 n2 c2,.slice A3 m c3] 32)).heap.size n (List.replicate n nilV) (fun _ => []):=fun w1 ho hg => by
  rw [show (Value.slice none 0 0).cells = #[Value.slice none 0 0] from rfl,Nat.mul_one,toList_madeCells_one] at ho
  exact ⟨blk_keep H0 hg (fun e => by cases e),by simp,grp_made ho,B0.grown hg (by simp) (fun k e => by cases e)⟩
 go_enter Tryz.func23,Tryz.ntmps23
 go_wp2_with (at_make; refine wpList_make_full _ rfl _ _ 66 rfl (w.heap.size + 1) 30 i0 _ 1 Tryz.underlying66 hi hy0 hy1 _ _ (n:Int) (n:Int) n rfl rfl rfl rfl hb2 hmx hbase ?_; intro w1 hown hgr; have HL:=hmk w1 hown hgr; clear hmk hown hgr hbase H0 B0; generalize (w.alloc _).heap.size = L at *; have b0:=HL.box.cell 0; have b3:=HL.box.cell 3)
 clear b0 b3
 go_loopw [12] (fun i wr => ∃ k vs,k≤m∧i = .int .i64 ((k:Nat):Int)∧LeavW w wr #[.int .i64 n,.slice A1 n1 c1,.slice A2 n2 c2,.slice A3 m c3] L n vs (leavS t.arcs k)) (fun i _ => m - (intOf i).toNat)
 case atStart => exact ⟨0,_,Nat.zero_le _,rfl,HL⟩
 case round =>
  clear HL
  obtain ⟨k,vs,hk,rfl,HB⟩:=hrel
  by_cases hlt:k < m
  ·have hi1:(0:Int)≤(k:Int):=by omega
   have hi2:(k:Int) < (m:Int):=by omega
   obtain ⟨g,o,rfl,hgB,a0,a1,a2,a3,a4,a5,a6,a7⟩:=arc_cell (R3'.below HB.bel) k hlt
   have hx:=Hfr.out k hlt
   obtain ⟨s,hs⟩:∃ s:Nat,(t.arcs.getD k ar0).fr = (s:Int):=⟨_,(Int.toNat_of_nonneg hx.1).symm⟩
   have hsn:s < n:=by omega
   have hsucc:=Lib.hid (leavS_succ t.arcs k (by have:=Hm.out; omega))
   have hrl:(leavS t.arcs k s).length≤m:=by have:=leavS_len t.arcs k s; have:=Hm.out; omega
   generalize leavS t.arcs k = rows at *
   generalize t.arcs.getD k ar0 = x at *
   obtain ⟨fr,to,⟨s1,s2,s3,s4⟩,q,cp⟩:=x
   simp only at hs a0 a1 a2 a3 a4 a5 a6 a7 hx
   subst hs
   have hi3:(0:Int)≤(s:Int):=by omega
   have hi4:(s:Int) < (n:Int):=by omega
   have HBa:=HB.call ((Below.refl wr.heap.size wr).alloc (Nat.le_refl _) (.cells #[.int .i64 (s:Int),.int .i64 to,.int .u64 s1,.int .u64 s2,.int .u64 s3,.int .u64 s4,.string q,.bool cp] 61))
   have HG:=Blk.new wr 61 #[.int .i64 (s:Int),.int .i64 to,.int .u64 s1,.int .u64 s2,.int .u64 s3,.int .u64 s4,.string q,.bool cp]
   have hrow:=HB.grp.row s hsn
   obtain ⟨Av,cv,hv,hv1,hv2,hv3⟩:=own_form hrow
   have hcl:=own_cellAt HBa.grp.own s hsn nilV
   rw [hv] at hcl
   obtain ⟨S,hSdef⟩:∃ S:World→Prop,S = fun W => Blk W wr.heap.size 61 #[.int .i64 (s:Int),.int .i64 to,.int .u64 s1,.int .u64 s2,.int .u64 s3,.int .u64 s4,.string q,.bool cp]∧W.cell? ⟨L,s,none⟩ = some (.slice Av (rows s).length cv):=⟨_,rfl⟩
   have hSi:=fun W h1 h2 => show S W by rw [hSdef]; exact ⟨h1,h2⟩
   have hSo:=fun W (h:S W) => show Blk W wr.heap.size 61 #[.int .i64 (s:Int),.int .i64 to,.int .u64 s1,.int .u64 s2,.int .u64 s3,.int .u64 s4,.string q,.bool cp]∧W.cell? ⟨L,s,none⟩ = some (.slice Av (rows s).length cv) by rw [hSdef] at h; exact h
   have z0:=fun p:Held S => (hSo p.w p.2).1.cell 0
   have z1:=fun p:Held S => (hSo p.w p.2).1.cell 1
   have z2:=fun p:Held S => (hSo p.w p.2).1.cell 2
   have z3:=fun p:Held S => (hSo p.w p.2).1.cell 3
   have z4:=fun p:Held S => (hSo p.w p.2).1.cell 4
   have z5:=fun p:Held S => (hSo p.w p.2).1.cell 5
   have z6:=fun p:Held S => (hSo p.w p.2).1.cell 6
   have z7:=fun p:Held S => (hSo p.w p.2).1.cell 7
   have zL:=fun p:Held S => (hSo p.w p.2).2
   have hS0:S (wr.alloc (.cells #[.int .i64 (s:Int),.int .i64 to,.int .u64 s1,.int .u64 s2,.int .u64 s3,.int .u64 s4,.string q,.bool cp] 61)).drew:=hSi _ HG hcl
   clear hSdef
   have:Nonempty (Held S):=⟨⟨_,hS0⟩⟩
   go_wp2
   refine wp_region_hold_at S 11 [0,1,2,3,4,5,6,7,8] [9,10] (by kernel_rfl) (by kernel_rfl) rfl (by kernel_rfl) hS0 ?_
   simp only [pickOps,List.getElem?_cons_zero,List.getElem?_cons_succ,List.drop_succ_cons,List.drop_zero]
   repeat (go_big_quiet_step (fail))
   refine wpQuiet_nil ?_
   clear z0 z1 z2 z3 z4 z5 z6 z7 zL
   refine wpForce_step rfl (fun KK hKK => ?_)
   go_simp
   generalize hwa:wr.alloc (.cells #[.int .i64 (s:Int),.int .i64 to,.int .u64 s1,.int .u64 s2,.int .u64 s3,.int .u64 s4,.string q,.bool cp] 61) = wa at *
   have hsa:wa.heap.size = wr.heap.size + 1:=by rw [← hwa]; simp
   have LA:Below wa.heap.size wa (wa.drew.alloc (.cells #[.int .i64 (s:Int),.int .i64 to,.int .u64 s1,.int .u64 s2,.int .u64 s3,.int .u64 s4,.string q,.bool cp] 61)):=(Below.refl _ wa).drew.alloc (Nat.le_refl _) _
   have HG2:=HG.below LA (by omega)
   have HB2:=HBa.call LA
   have hcl2:=own_cellAt HB2.grp.own s hsn nilV
   rw [hv] at hcl2
   refine hKK _ _ (HeldIn.of (hSi _ HG2 hcl2)) ?_
   clear hKK KK
   have hrd:=reads_allocK wa.drew [.int .i64 (s:Int),.int .i64 to,.int .u64 s1,.int .u64 s2,.int .u64 s3,.int .u64 s4,.string q,.bool cp] 61 8 1 rfl
   rw [show wa.drew.heap.size = wr.heap.size + 1 from hsa] at hrd
   have hrow2:=HB2.grp.row s hsn
   rw [hv] at hrow2
   have hone:=encA_one ⟨(s:Int),to,⟨s1,s2,s3,s4⟩,q,cp⟩
   have h63:(rows s).length + 1≤maxLen:=by unfold maxLen; omega
   have hby:((rows s).length + 1) * 72≤140737488355328:=by omega
   have hbs:w.heap.size + 1≤(wa.drew.alloc (.cells #[.int .i64 (s:Int),.int .i64 to,.int .u64 s1,.int .u64 s2,.int .u64 s3,.int .u64 s4,.string q,.bool cp] 61)).heap.size:=HB2.size
   obtain ⟨ia,hia,hya0,hya1,hya2⟩:=info_parts arc_info
   refine wpForce_step rfl (fun KK hKK => ?_)
   refine wp_append_any _ _ _ 30 rfl (w.heap.size + 1) 61 ia _ 8 72 Tryz.underlying30 hia hya0 hya1 hya2 rfl (by decide) _ _ _ rfl hrow2 _ (some ⟨wr.heap.size + 1,0,none⟩) 1 1 [.int .i64 (s:Int),.int .i64 to,.int .u64 s1,.int .u64 s2,.int .u64 s3,.int .u64 s4,.string q,.bool cp] rfl hrd hone h63 hby hbs ?_
   intro v' w5 hown hgrow hloc
   have hgrow':=hgrow
   rw [← hv] at hgrow'
   have HW:=HB2.put s hsn ⟨(s:Int),to,⟨s1,s2,s3,s4⟩,q,cp⟩ hgrow' hown (by rw [hv]; exact hloc)
   have k5:=HB2.grp.own.kept hgrow' (apart_types HB2.grp.own (HB2.grp.row s hsn) (by decide)).or_none
   have hcl5:=own_cellAt k5 s hsn nilV
   have hfz5:=own_frozenAt k5 s
   rw [hv] at hcl5
   have HG5:=blk_keep HG2 hgrow (fun e => by have:=(own_lt hrow wr.heap.size (by rw [hv]; exact e)).2; omega)
   refine hKK _ _ (HeldIn.of (hSi _ HG5 hcl5)) ?_
   clear hKK KK
   obtain ⟨Av2,cv2,rfl,_,_,_⟩:=own_form hown
   clear hown hgrow hgrow' hloc hrd hrow2 HG2 HG5 HG HB2 HBa HB hSi hSo hS0 k5 LA hcl hcl2
   refine wpForce_nil ?_
   go_wp2
   refine NoPanic.normal ?_
   go_wp2
   go_roundw
   case rel =>
    refine ⟨k + 1,vs.set s (.slice Av2 ((rows s).length + 1) cv2),by omega,by go_num,?_⟩
    have e:leavS t.arcs (k + 1) = fun u => if u = s then rows s ++ [(⟨(s:Int),to,⟨s1,s2,s3,s4⟩,q,cp⟩:Ar)] else rows u:=by
     funext u
     rw [hsucc.out u]
     by_cases hu:u = s
     ·subst hu; rw [if_pos rfl,if_pos rfl]
     ·rw [if_neg (show ¬ ((u:Int) = (s:Int)) by omega),if_neg hu]
    rw [e]
    exact HW
   case measure => simp [intOf]; omega
  ·obtain rfl:k = m:=by omega
   have hg:=HB.grp
   have hl:=HB.gL
   have hb:=HB.bel
   clear HB R3'
   go_wp2
   go_ret
   exact ⟨L,vs,rfl,hl,hg,hb⟩
end Go.Proofs.YtcondkihpmmnnaaGreatDoor
namespace Go.Proofs.YtcondkihpmmnnaaGreatDoor
open Go.RowKit Go.Sort
def ReadsP (p:Nat→Prop) (w:World) (size:Nat) (A:Option Addr) (n:Nat) (xs:List Value):Prop :=
 xs.length = n * size∧(0 < n→∃ ad,A = some ad∧p ad.block∧∀ j u,xs[j]? = some u→w.cell? (ad.add j) = some u)
section
variable {p q:Nat→Prop} {w w':World} {B size n:Nat} {A:Option Addr} {xs:List Value}
theorem cell_kept {w w':World} {a:Addr} (h:w'.heap[a.block]? = w.heap[a.block]?):w'.cell? a = w.cell? a:=World.cell?_of_block h
theorem ReadsP.reads (h:ReadsP p w size A n xs) (hp:∀ k,p k→k < B):Reads w B size A n xs :=
 ⟨h.1,fun hn => by
  obtain ⟨ad,e,hb,hc⟩:=h.2 hn
  exact ⟨ad,e,hp _ hb,hc⟩⟩
theorem ReadsP.kept (h:ReadsP p w size A n xs) (hk:∀ k,p k→w'.heap[k]? = w.heap[k]?):ReadsP p w' size A n xs :=
 ⟨h.1,fun hn => by
  obtain ⟨ad,e,hb,hc⟩:=h.2 hn
  exact ⟨ad,e,hb,fun j u hu => (cell_kept (by rw [block_of_add]; exact hk _ hb)).trans (hc j u hu)⟩⟩
theorem ReadsP.mono (h:ReadsP p w size A n xs) (hp:∀ k,p k→q k):ReadsP q w size A n xs :=
 ⟨h.1,fun hn => by
  obtain ⟨ad,e,hb,hc⟩:=h.2 hn
  exact ⟨ad,e,hp _ hb,hc⟩⟩
theorem ReadsP.of_reads (h:Reads w B size A n xs) (hp:∀ k,k < B→p k):ReadsP p w size A n xs :=
 ⟨h.1,fun hn => by
  obtain ⟨ad,e,hb,hc⟩:=h.2 hn
  exact ⟨ad,e,hp _ hb,hc⟩⟩
theorem ReadsP.of_own {base:Nat} {e:TypeId} {c:Nat} (h:w.ownsRow base e size (.slice A n c) n xs) (hp:∀ g,(Value.slice A n c).ownBlock = some g→p g):ReadsP p w size A n xs:=by
 refine ⟨h.1,fun hn => ?_⟩
 obtain ⟨ad,rfl,hb,hc⟩:=(Reads.of_own h).2 hn
 obtain ⟨g,cap,hv,_,hlt⟩:=h.form hn
 injection hv with hv
 have hv:=Option.some.inj hv
 subst hv
 exact ⟨_,rfl,hp g rfl,hc⟩
end
def GrpP {α:Type} (p:Nat→Prop) (enc:α→List Value) (k:Nat) (w:World) (L n:Nat) (rows:Nat→List α):Prop :=
 p L∧∀ s,s < n→∃ A c,w.cell? ⟨L,s,none⟩ = some (.slice A (rows s).length c)∧(rows s).length≤c∧c≤maxLen∧ReadsP p w k A (rows s).length (encs enc (rows s))
section
variable {α:Type} {p:Nat→Prop} {enc:α→List Value} {k:Nat} {w w':World} {base B L n:Nat} {eL e:TypeId} {vs:List Value} {rows:Nat→List α}
theorem GrpP.kept (h:GrpP p enc k w L n rows) (hk:∀ k,p k→w'.heap[k]? = w.heap[k]?):GrpP p enc k w' L n rows :=
 ⟨h.1,fun s hs => by
  obtain ⟨A,c,h1,h2,h3,h4⟩:=h.2 s hs
  exact ⟨A,c,(cell_kept (a:=⟨L,s,none⟩) (hk _ h.1)).trans h1,h2,h3,h4.kept hk⟩⟩
theorem GrpP.read (h:GrpP p enc k w L n rows) (hp:∀ k,p k→k < B):GrpR enc k w B L n rows :=
 ⟨hp _ h.1,fun s hs => by
  obtain ⟨A,c,h1,h2,h3,h4⟩:=h.2 s hs
  exact ⟨A,c,h1,h2,h3,h4.reads hp⟩⟩
theorem GrpP.of_grp (h:Grp enc k w base L n eL e vs rows) (hL:p L) (hp:∀ s g,s < n→(vs.getD s nilV).ownBlock = some g→p g):GrpP p enc k w L n rows:=by
 refine ⟨hL,fun s hs => ?_⟩
 have hr:=h.row s hs
 obtain ⟨A,c,hv,h1,h2,_⟩:=own_form hr
 have hc:=own_cellAt h.own s hs nilV
 have hq:=hp s
 rw [hv] at hc hr hq
 exact ⟨A,c,hc,h1,h2,ReadsP.of_own hr fun g hg => hq g hs hg⟩
end
theorem seen_look {α:Type} {T mt ut:TypeId} {enc:α→List Value} {ok:α→Prop} {w:World} {b:Nat} {l:List α} [DecidableEq α] (K:Maps.Keyed Tryz.prog T) (ht:Tryz.prog.underlying mt = some (.map T ut)) (hz:∀ W,(zeroValue ut).run Tryz.prog W = .ok (.agg #[]) W)
    (h:Seen T enc ok w b l) (x:α) (hx:ok x) {kl:Lit} (hk:keyOf Tryz.prog T (.agg (enc x).toArray) = some kl) :
    (Instr.lookup mt (.map (some b)) (.agg (enc x).toArray) true).run Tryz.prog w = .ok (.tuple #[.agg #[],.bool (decide (x∈l))]) w:=by
 obtain ⟨n,D,ho,_,_,hh⟩:=h
 obtain ⟨v,ps,h1,h2⟩:=ho.look_ok K ht (hz w) unitElem_mk hk
 obtain ⟨rfl,_⟩:=unitElem_inv h2
 rw [h1]
 have:=hh x hx kl hk
 rcases hb:Maps.has D kl with _ | _
 ·rw [hb] at this
  rw [decide_eq_false (fun e => by have:=this.2 e; cases this)]
 ·rw [hb] at this
  rw [decide_eq_true (this.1 rfl)]
end Go.Proofs.YtcondkihpmmnnaaGreatDoor
