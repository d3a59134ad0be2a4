/- Lemmas, part 31 of 39. No condition. -/
import Derived.Test.YtcondkihpmmnnaaGreatDoorUniqueP26
import Derived.Test.YtcondkihpmmnnaaGreatDoorUniqueP11
import Derived.Test.YtcondkihpmmnnaaGreatDoorUniqueP29
import Derived.Test.YtcondkihpmmnnaaGreatDoorUniqueP30
import Derived.Test.YtcondkihpmmnnaaGreatDoorUniqueP28
import Derived.Test.YtcondkihpmmnnaaGreatDoorUniqueP23
namespace Go.Proofs.YtcondkihpmmnnaaGreatDoor
open Go.RowKit Go.Sort
abbrev mk0 (v:Value) (most:Int) (MB:Nat):Array Value:=#[v,.slice none 0 0,.int .i64 most,.slice none 0 0,.map (some MB),.string ⟨#[]⟩,.slice none 0 0,.slice none 0 0,.slice none 0 0,.slice none 0 0]
structure FldInv (w0:World) (B0 G MB n:Nat) (most:Int) (b:Act) (is:List Nat) (a:Act) (W:World) (LA LE:Nat):Prop where
 nd:is.Nodup
 sub:∀ i∈is,i∈[4,7,8,9,10]
 defers:a.defers = b.defers
 size:a.tmps.size = b.tmps.size
 same:∀ x,x ∉ [41,44,45,46]→a.tmps[x]? = b.tmps[x]?
 bel:Below B0 w0 W
 sz:w0.heap.size≤W.heap.size
 keep:∀ g,g < w0.heap.size→g≠G→W.heap[g]? = w0.heap[g]?
 bG:B0≤G
 dep:10 ∉ is→4 ∉ is
 m4:4 ∉ is→a.tmps[41]? = some (.slice (some ⟨LA,0,none⟩) n n)∧W.ownsRow w0.heap.size 30 1 (.slice (some ⟨LA,0,none⟩) n n) n (List.replicate n nilV)
 m7:7 ∉ is→a.tmps[44]? = some (.slice (some ⟨LE,0,none⟩) n n)∧W.ownsRow w0.heap.size 25 1 (.slice (some ⟨LE,0,none⟩) n n) n (List.replicate n nilV)
 m8:8 ∉ is→a.tmps[45]? = some (.pointer (some ⟨G,0,none⟩))
 m9:9 ∉ is→a.tmps[46]? = some (.pointer (some ⟨G,0,none⟩))
 box:Blk W G 78 (mk0 (if 10∈is then nilV else .slice (some ⟨LA,0,none⟩) n n) most MB)
 lG:G < w0.heap.size
section
variable {w0 W W':World} {B0 G MB n:Nat} {most:Int} {b a:Act} {is:List Nat} {LA LE:Nat}
theorem fld_erase (hd:is.Nodup) (i j:Nat):j ∉ is.erase i↔j = i∨j ∉ is:=by
 rw [hd.mem_erase_iff]
 by_cases e:j = i <;> simp [e]
theorem fld_get {a b:Act} {d:Tmp} (hd:d∈[41,44,45,46]) (hz:a.tmps.size = b.tmps.size) (hb:46 < b.tmps.size) (v:Value):(a.put (some d) v).tmps[d]? = some v:=by
 refine put_same ?_ v
 rw [hz]
 simp only [List.mem_cons,List.not_mem_nil,or_false] at hd
 rcases hd with rfl | rfl | rfl | rfl
 ·exact Nat.lt_trans (by decide) hb
 ·exact Nat.lt_trans (by decide) hb
 ·exact Nat.lt_trans (by decide) hb
 ·exact hb
theorem FldInv.make4 (h:FldInv w0 B0 G MB n most b is a W LA LE) (hi:4∈is) (hb:46 < b.tmps.size) (hB:Below W.heap.size W W') (ho:W'.ownsRow w0.heap.size 30 1 (.slice (some ⟨W.heap.size,0,none⟩) n n) n (List.replicate n nilV)) :
    FldInv w0 B0 G MB n most b (is.erase 4) (a.put (some 41) (.slice (some ⟨W.heap.size,0,none⟩) n n)) W' W.heap.size LE:=by
 have e:=fld_erase h.nd 4
 have h10:10∈is:=Classical.byContradiction fun c => h.dep c hi
 have h10':10∈is.erase 4:=(h.nd.mem_erase_iff).2 ⟨by decide,h10⟩
 have hbx:=h.box
 rw [if_pos h10] at hbx
 exact { nd:=h.nd.erase 4,sub:=fun i hi => h.sub i (List.mem_of_mem_erase hi),defers:=h.defers,size:=(put_size _).trans h.size,same:=put_agrees (by simp) h.same,bel:=h.bel.trans (hB.mono (Nat.le_trans h.bG (Nat.le_of_lt (Nat.lt_of_lt_of_le h.lG h.sz)))),sz:=Nat.le_trans h.sz hB.size,keep:=fun g hg hn => (hB.block g (Nat.lt_of_lt_of_le hg h.sz)).trans (h.keep g hg hn),bG:=h.bG,lG:=h.lG
         dep:=fun c => absurd h10' c
         m4:=fun _ => ⟨fld_get (by simp) h.size hb _,ho⟩
         m7:=fun c => by
          obtain ⟨x1,x2⟩:=h.m7 ((((e 7).1 c).resolve_left (by decide)))
          exact ⟨(put_other (by decide) _).trans x1,own_below x2 hB⟩
         m8:=fun c => (put_other (by decide) _).trans (h.m8 (((e 8).1 c).resolve_left (by decide)))
         m9:=fun c => (put_other (by decide) _).trans (h.m9 (((e 9).1 c).resolve_left (by decide)))
         box:=by rw [if_pos h10']; exact hbx.below hB hbx.lt }
theorem FldInv.make7 (h:FldInv w0 B0 G MB n most b is a W LA LE) (hb:46 < b.tmps.size) (hB:Below W.heap.size W W') (ho:W'.ownsRow w0.heap.size 25 1 (.slice (some ⟨W.heap.size,0,none⟩) n n) n (List.replicate n nilV)) :
    FldInv w0 B0 G MB n most b (is.erase 7) (a.put (some 44) (.slice (some ⟨W.heap.size,0,none⟩) n n)) W' LA W.heap.size:=by
 have e:=fld_erase h.nd 7
 have h10:10∈is.erase 7↔10∈is:=by rw [h.nd.mem_erase_iff]; simp
 exact { nd:=h.nd.erase 7,sub:=fun i hi => h.sub i (List.mem_of_mem_erase hi),defers:=h.defers,size:=(put_size _).trans h.size,same:=put_agrees (by simp) h.same,bel:=h.bel.trans (hB.mono (Nat.le_trans h.bG (Nat.le_of_lt (Nat.lt_of_lt_of_le h.lG h.sz)))),sz:=Nat.le_trans h.sz hB.size,keep:=fun g hg hn => (hB.block g (Nat.lt_of_lt_of_le hg h.sz)).trans (h.keep g hg hn),bG:=h.bG,lG:=h.lG
         dep:=fun c => (e 4).2 (.inr (h.dep (fun x => c (h10.2 x))))
         m4:=fun c => by
          obtain ⟨x1,x2⟩:=h.m4 ((((e 4).1 c).resolve_left (by decide)))
          exact ⟨(put_other (by decide) _).trans x1,own_below x2 hB⟩
         m7:=fun _ => ⟨fld_get (by simp) h.size hb _,ho⟩
         m8:=fun c => (put_other (by decide) _).trans (h.m8 (((e 8).1 c).resolve_left (by decide)))
         m9:=fun c => (put_other (by decide) _).trans (h.m9 (((e 9).1 c).resolve_left (by decide)))
         box:=by simp only [h10]; exact h.box.below hB h.box.lt }
theorem FldInv.make8 (h:FldInv w0 B0 G MB n most b is a W LA LE) (hb:46 < b.tmps.size):FldInv w0 B0 G MB n most b (is.erase 8) (a.put (some 45) (.pointer (some ⟨G,0,none⟩))) W LA LE:=by
 have e:=fld_erase h.nd 8
 have h10:10∈is.erase 8↔10∈is:=by rw [h.nd.mem_erase_iff]; simp
 exact { nd:=h.nd.erase 8,sub:=fun i hi => h.sub i (List.mem_of_mem_erase hi),defers:=h.defers,size:=(put_size _).trans h.size,same:=put_agrees (by simp) h.same,bel:=h.bel,sz:=h.sz,keep:=h.keep,bG:=h.bG,lG:=h.lG
         dep:=fun c => (e 4).2 (.inr (h.dep (fun x => c (h10.2 x))))
         m4:=fun c => by
          obtain ⟨x1,x2⟩:=h.m4 ((((e 4).1 c).resolve_left (by decide)))
          exact ⟨(put_other (by decide) _).trans x1,x2⟩
         m7:=fun c => by
          obtain ⟨x1,x2⟩:=h.m7 ((((e 7).1 c).resolve_left (by decide)))
          exact ⟨(put_other (by decide) _).trans x1,x2⟩
         m8:=fun _ => fld_get (by simp) h.size hb _
         m9:=fun c => (put_other (by decide) _).trans (h.m9 (((e 9).1 c).resolve_left (by decide)))
         box:=by simp only [h10]; exact h.box }
theorem FldInv.make9 (h:FldInv w0 B0 G MB n most b is a W LA LE) (hb:46 < b.tmps.size):FldInv w0 B0 G MB n most b (is.erase 9) (a.put (some 46) (.pointer (some ⟨G,0,none⟩))) W LA LE:=by
 have e:=fld_erase h.nd 9
 have h10:10∈is.erase 9↔10∈is:=by rw [h.nd.mem_erase_iff]; simp
 exact { nd:=h.nd.erase 9,sub:=fun i hi => h.sub i (List.mem_of_mem_erase hi),defers:=h.defers,size:=(put_size _).trans h.size,same:=put_agrees (by simp) h.same,bel:=h.bel,sz:=h.sz,keep:=h.keep,bG:=h.bG,lG:=h.lG
         dep:=fun c => (e 4).2 (.inr (h.dep (fun x => c (h10.2 x))))
         m4:=fun c => by
          obtain ⟨x1,x2⟩:=h.m4 ((((e 4).1 c).resolve_left (by decide)))
          exact ⟨(put_other (by decide) _).trans x1,x2⟩
         m7:=fun c => by
          obtain ⟨x1,x2⟩:=h.m7 ((((e 7).1 c).resolve_left (by decide)))
          exact ⟨(put_other (by decide) _).trans x1,x2⟩
         m8:=fun c => (put_other (by decide) _).trans (h.m8 (((e 8).1 c).resolve_left (by decide)))
         m9:=fun _ => fld_get (by simp) h.size hb _
         box:=by simp only [h10]; exact h.box }
theorem FldInv.make10 (h:FldInv w0 B0 G MB n most b is a W LA LE) (hi:10∈is) (h4:4 ∉ is):FldInv w0 B0 G MB n most b (is.erase 10) (a.put none undef) (W.setCell ⟨G,0,none⟩ (.slice (some ⟨LA,0,none⟩) n n)) LA LE:=by
 have e:=fld_erase h.nd 10
 have hbx:=h.box
 rw [if_pos hi] at hbx
 have h10:10 ∉ is.erase 10:=(e 10).2 (.inl rfl)
 have own:∀ {el:TypeId} {v:Value} {xs:List Value},el≠78→W.ownsRow w0.heap.size el 1 v n xs→(W.setCell ⟨G,0,none⟩ (.slice (some ⟨LA,0,none⟩) n n)).ownsRow w0.heap.size el 1 v n xs:=fun hne ho => own_setCell ho (own_blk ho hbx hne) _
 exact { nd:=h.nd.erase 10,sub:=fun i hi => h.sub i (List.mem_of_mem_erase hi),defers:=h.defers,size:=h.size,same:=h.same,bel:=h.bel.setCell (p:=⟨G,0,none⟩) h.bG _,sz:=by simpa using h.sz,keep:=fun g hg hn => (Below.heap_setCell _ _ _ _ (show g≠G from hn)).trans (h.keep g hg hn),bG:=h.bG,lG:=h.lG
         dep:=fun _ => (e 4).2 (.inr h4)
         m4:=fun c => by
          obtain ⟨x1,x2⟩:=h.m4 h4
          exact ⟨x1,own (by decide) x2⟩
         m7:=fun c => by
          obtain ⟨x1,x2⟩:=h.m7 ((((e 7).1 c).resolve_left (by decide)))
          exact ⟨x1,own (by decide) x2⟩
         m8:=fun c => h.m8 (((e 8).1 c).resolve_left (by decide))
         m9:=fun c => h.m9 (((e 9).1 c).resolve_left (by decide))
         box:=by rw [if_neg h10]; exact hbx.set_ 0 _ }
theorem FldInv.start (b:Act) (w0:World) (hG:B0≤G) (hbox:Blk w0 G 78 (mk0 nilV most MB)):FldInv w0 B0 G MB n most b [4,7,8,9,10] b w0 LA LE where
 nd:=by decide
 sub:=fun i hi => hi
 defers:=rfl
 size:=rfl
 same:=fun _ _ => rfl
 bel:=Below.refl _ _
 sz:=Nat.le_refl _
 keep:=fun _ _ _ => rfl
 bG:=hG
 lG:=hbox.lt
 dep:=fun c => absurd (by simp) c
 m4:=fun c => absurd (by simp) c
 m7:=fun c => absurd (by simp) c
 m8:=fun c => absurd (by simp) c
 m9:=fun c => absurd (by simp) c
 box:=hbox
end
def FldGoal (Sx:World→Prop) (w:World) (B0 G MB n:Nat) (most:Int) (kont:Act→Nat→Nat→World→Prop) (is:List Nat) (a:Act) (W:World):Prop :=
 ∃ b LA LE,(46 < b.tmps.size∧b.tmps[37]? = some (.pointer (some ⟨G,0,none⟩))∧b.tmps[40]? = some (.int .i64 (n:Int))∧b.tmps[43]? = some (.int .i64 (n:Int)))∧Sx W∧FldInv w.drew B0 G MB n most b is a W LA LE ∧
  ∀ LA LE W,Below B0 w W→w.heap.size≤W.heap.size→(∀ g,g < w.heap.size→g≠G→W.heap[g]? = w.heap[g]?)→W.ownsRow w.heap.size 30 1 (.slice (some ⟨LA,0,none⟩) n n) n (List.replicate n nilV)→W.ownsRow w.heap.size 25 1 (.slice (some ⟨LE,0,none⟩) n n) n (List.replicate n nilV)→Blk W G 78 (mk0 (.slice (some ⟨LA,0,none⟩) n n) most MB)→kont b LA LE W
theorem FldGoal.start {Sx:World→Prop} {w:World} {B0 G MB n:Nat} {most:Int} {kont:Act→Nat→Nat→World→Prop} (b:Act) (hs:46 < b.tmps.size∧b.tmps[37]? = some (.pointer (some ⟨G,0,none⟩))∧b.tmps[40]? = some (.int .i64 (n:Int))∧b.tmps[43]? = some (.int .i64 (n:Int))) (hG:B0≤G) (hbox:Blk w G 78 (mk0 nilV most MB)) (hS0:Sx w.drew)
    (hk:∀ LA LE W,Below B0 w W→w.heap.size≤W.heap.size→(∀ g,g < w.heap.size→g≠G→W.heap[g]? = w.heap[g]?)→W.ownsRow w.heap.size 30 1 (.slice (some ⟨LA,0,none⟩) n n) n (List.replicate n nilV)→W.ownsRow w.heap.size 25 1 (.slice (some ⟨LE,0,none⟩) n n) n (List.replicate n nilV)→Blk W G 78 (mk0 (.slice (some ⟨LA,0,none⟩) n n) most MB)→kont b LA LE W) :
    FldGoal Sx w B0 G MB n most kont [4,7,8,9,10] b w.drew:=⟨b,0,0,hs,hS0,FldInv.start b w.drew hG hbox,hk⟩
set_option maxHeartbeats 1000000 in
theorem fields_below {id:Nat} {base:Act} {w:World} {o0 o1 o2 o3 o4 o5 o6 o7 o8 o9 o10 o11 o12 o13:Oper} {Q:Exit→Act→World→Prop} {B0 G MB n:Nat} {most:Int} {iA iE:TypeInfo} (Sx:World→Prop)
    (hm:Tryz.prog.follows .mixedOrders = true) (hB:holdGB .any #[o0,o1,o2,o3,o4,o5,o6,o7,o8,o9,o10,o11,o12,o13] 11 [0,1,2,3,5,6] [4,7,8,9,10] (fun i => if i = 8 then [4] else if i = 9 then [8] else if i = 10 then [9,4] else []) = true)
    (a1:Tryz.prog.info? 30 = some iA) (a2:iA.zero = some nilV) (a3:iA.size = 1) (a4:iA.bytes = 24) (b1:Tryz.prog.info? 25 = some iE) (b2:iE.zero = some nilV) (b3:iE.size = 1) (b4:iE.bytes = 24) (hn:n≤1024)
    (p4:o4.op = Op.makeSlice 66 (.tmp 40) (.tmp 40)) (d4:o4.dst = some 41) (g4:o4.guard = none)
    (p7:o7.op = Op.makeSlice 23 (.tmp 43) (.tmp 43)) (d7:o7.dst = some 44) (g7:o7.guard = none)
    (g8:o8.guard = none) (g9:o9.guard = none) (g10:o10.guard = none)
    (h8:∀ (a:Act) (W:World) (K:Act→World→Prop),a.eval (.tmp 37) = .pointer (some ⟨G,0,none⟩)→K (a.put (some 45) (.pointer (some ⟨G,0,none⟩))) W→o8.wp Tryz.prog a W K (NoPanic Q))
    (h9:∀ (a:Act) (W:World) (K:Act→World→Prop),a.eval (.tmp 45) = .pointer (some ⟨G,0,none⟩)→K (a.put (some 46) (.pointer (some ⟨G,0,none⟩))) W→o9.wp Tryz.prog a W K (NoPanic Q))
    (h10:∀ (a:Act) (W:World) (K:Act→World→Prop) (LA:Nat),a.eval (.tmp 46) = .pointer (some ⟨G,0,none⟩)→a.eval (.tmp 41) = .slice (some ⟨LA,0,none⟩) n n→W.cell? ⟨G,0,none⟩ = some nilV→W.frozen? ⟨G,0,none⟩ = false→K (a.put none undef) (W.setCell ⟨G,0,none⟩ (.slice (some ⟨LA,0,none⟩) n n))→o10.wp Tryz.prog a W K (NoPanic Q))
    (hS0:Sx w.drew) (hS1:∀ W W',Sx W→Below W.heap.size W W'→Sx W') (hS2:∀ W u,Sx W→Sx (W.setCell ⟨G,0,none⟩ u))
    (h:wpQuiet Tryz.prog #[o0,o1,o2,o3,o4,o5,o6,o7,o8,o9,o10,o11,o12,o13] (fun w' => ∃ p:Held Sx,w' = p.w)
     (fun b => FldGoal Sx w B0 G MB n most (fun b LA LE W => wpList Tryz.prog #[o0,o1,o2,o3,o4,o5,o6,o7,o8,o9,o10,o11,o12,o13] (NoPanic Q) [o11,o12,o13] ((((b.put (some 41) (.slice (some ⟨LA,0,none⟩) n n)).put (some 44) (.slice (some ⟨LE,0,none⟩) n n)).put (some 45) (.pointer (some ⟨G,0,none⟩))).put (some 46) (.pointer (some ⟨G,0,none⟩))) W) [4,7,8,9,10] b w.drew)
     (pickOps [o0,o1,o2,o3,o4,o5,o6,o7,o8,o9,o10,o11,o12,o13] [0,1,2,3,5,6]) base) :
    (Code.region id #[o0,o1,o2,o3,o4,o5,o6,o7,o8,o9,o10,o11,o12,o13] true).wp Tryz.prog Q base w:=by
 refine wp_region_noPanic ?_
 refine wp_region_fanG (l:=[o0,o1,o2,o3,o4,o5,o6,o7,o8,o9,o10,o11,o12,o13]) (fun w' => ∃ p:Held Sx,w' = p.w) 11 [0,1,2,3,5,6] [4,7,8,9,10] (fun i => if i = 8 then [4] else if i = 9 then [8] else if i = 10 then [9,4] else []) _ hm hB rfl (pickOps_map [o0,o1,o2,o3,o4,o5,o6,o7,o8,o9,o10,o11,o12,o13] [0,1,2,3,5,6] rfl) (fun _ _ _ _ _ h => h) ⟨⟨_,hS0⟩,rfl⟩
  (FldGoal Sx w B0 G MB n most fun b LA LE W => wpList Tryz.prog #[o0,o1,o2,o3,o4,o5,o6,o7,o8,o9,o10,o11,o12,o13] (NoPanic Q) [o11,o12,o13] ((((b.put (some 41) (.slice (some ⟨LA,0,none⟩) n n)).put (some 44) (.slice (some ⟨LE,0,none⟩) n n)).put (some 45) (.pointer (some ⟨G,0,none⟩))).put (some 46) (.pointer (some ⟨G,0,none⟩))) W) ?_ ?_ h
 ·rintro is a W ⟨b,LA,LE,⟨hb,s37,s40,s43⟩,hS,hI,hk⟩ i hi hd
  have hc:=hI.sub i hi
  simp only [List.mem_cons,List.not_mem_nil,or_false] at hc
  have t37:=(hI.same 37 (by decide)).trans s37
  have t40:=(hI.same 40 (by decide)).trans s40
  have t43:=(hI.same 43 (by decide)).trans s43
  rcases hc with rfl | rfl | rfl | rfl | rfl
  ·refine ⟨o4,rfl,g4,op_make 40 66 p4 w.drew.heap.size 30 iA _ 1 Tryz.underlying66 a1 a2 a3 n (eval_tmp t40) (by rw [a4]; omega) (by unfold maxLen; omega) hI.sz fun W' ho hB' => ?_⟩
   rw [show nilV.cells = #[nilV] from rfl,Nat.mul_one,toList_madeCells_one] at ho
   have hS':=hS1 W W' hS hB'
   rw [d4]
   exact ⟨⟨⟨W',hS'⟩,rfl⟩,b,_,LE,⟨hb,s37,s40,s43⟩,hS',hI.make4 hi hb hB' ho,hk⟩
  ·refine ⟨o7,rfl,g7,op_make 43 23 p7 w.drew.heap.size 25 iE _ 1 Tryz.underlying23 b1 b2 b3 n (eval_tmp t43) (by rw [b4]; omega) (by unfold maxLen; omega) hI.sz fun W' ho hB' => ?_⟩
   rw [show nilV.cells = #[nilV] from rfl,Nat.mul_one,toList_madeCells_one] at ho
   have hS':=hS1 W W' hS hB'
   rw [d7]
   exact ⟨⟨⟨W',hS'⟩,rfl⟩,b,LA,_,⟨hb,s37,s40,s43⟩,hS',hI.make7 hb hB' ho,hk⟩
  ·exact ⟨o8,rfl,g8,h8 a W _ (eval_tmp t37) ⟨⟨⟨W,hS⟩,rfl⟩,b,LA,LE,⟨hb,s37,s40,s43⟩,hS,hI.make8 hb,hk⟩⟩
  ·exact ⟨o9,rfl,g9,h9 a W _ (eval_tmp (hI.m8 (hd 8 (by decide)))) ⟨⟨⟨W,hS⟩,rfl⟩,b,LA,LE,⟨hb,s37,s40,s43⟩,hS,hI.make9 hb,hk⟩⟩
  ·have n4:=hd 4 (by decide)
   have n9:=hd 9 (by decide)
   have hbx:=hI.box
   rw [if_pos hi] at hbx
   have hS':=hS2 W (.slice (some ⟨LA,0,none⟩) n n) hS
   exact ⟨o10,rfl,g10,h10 a W _ LA (eval_tmp (hI.m9 n9)) (eval_tmp (hI.m4 n4).1) (hbx.cell 0) (hbx.frozen 0) ⟨⟨⟨_,hS'⟩,rfl⟩,b,LA,LE,⟨hb,s37,s40,s43⟩,hS',hI.make10 hi n4,hk⟩⟩
 ·rintro a W ⟨b,LA,LE,hs,hS,hI,hk⟩
  obtain ⟨x4,o4'⟩:=hI.m4 (by simp)
  obtain ⟨x7,o7'⟩:=hI.m7 (by simp)
  have x8:=hI.m8 (by simp)
  have x9:=hI.m9 (by simp)
  have hbx:=hI.box
  rw [if_neg (by simp)] at hbx
  rw [act_eq4 hI.defers hI.size hI.same x4 x7 x8 x9]
  exact hk LA LE W ((Below.refl _ w).drew.trans hI.bel) hI.sz hI.keep o4' o7' hbx
end Go.Proofs.YtcondkihpmmnnaaGreatDoor
namespace Go.Proofs.YtcondkihpmmnnaaGreatDoor
open Go.RowKit Go.Sort
set_option maxRecDepth 100000 in
set_option maxHeartbeats 8000000 in
theorem reached_any (q:SeqM) (v:Value) (B n:Nat) (w:World) (HS:SeqAt w B q v) (hB:B≤w.heap.size) (hck:ckB q = true) (hn:q.next.length = n) :
    Calls Tryz.prog 70 #[v] w (ReachedPost q n w):=by
 obtain ⟨A1,c1,A2,c2,A3,c3,A4,c4,rfl,hf,l1,l2,l3,l4,m1,m2,m3,m4,R1,hz,R2,hsz,R3,R4,htl⟩:=HS
 obtain ⟨p1,p2,p3,p4,p5,p6⟩:=ck_parts hck
 have HP6:=Lib.hid p6
 have HCk:=Lib.hid (fun s b (hs:s < n) (hb:b < 256) => ckB_nx hck (s:=s) (by rw [hn]; exact hs) hb)
 rw [p2,p3,p4]
 rw [hn] at p1 l1 R1 ⊢
 have Hn:=Lib.hid hn
 generalize q.front = fr at *
 have K:=Blk.new w 27 #[.string fr,.slice A1 n c1,.slice A2 n c2,.slice A3 n c3,.slice A4 n c4]
 have LB:=(Below.refl w.heap.size w).alloc (Nat.le_refl _) (.cells #[.string fr,.slice A1 n c1,.slice A2 n c2,.slice A3 n c3,.slice A4 n c4] 27)
 have hlts:=K.lt
 have k1:=K.cell 1
 obtain ⟨i0,hi,hy0,hy1,hy2⟩:=info_parts bool_infoS
 have hbb:i0.bytes * n≤281474976710656:=by rw [hy2]; omega
 have hmx:n≤maxLen:=by unfold maxLen; omega
 clear R2 R3 R4 hz hsz htl p2 p3 p4 p5 p6 hck hn l2 l3 l4
 go_enter Tryz.func70,Tryz.ntmps70
 go_upto_region 2 with (at_make; refine wpList_make_full _ rfl _ _ 24 rfl (w.alloc (.cells #[.string fr,.slice A1 n c1,.slice A2 n c2,.slice A3 n c3,.slice A4 n c4] 27)).heap.size 4 i0 _ 1 Tryz.underlying24 hi hy0 hy1 _ _ (n:Int) (n:Int) n rfl rfl rfl rfl hbb hmx (Nat.le_refl _) ?_; intro w2 hown hgr)
 have hgb:=(Below.refl (w.alloc (.cells #[.string fr,.slice A1 n c1,.slice A2 n c2,.slice A3 n c3,.slice A4 n c4] 27)).heap.size _).grown hgr (Nat.le_refl _) (fun k e => by cases e)
 rw [show (Value.bool false).cells = #[Value.bool false] from rfl,Nat.mul_one,toList_madeCells_one] at hown
 have hG:=blk_of_made hown
 rw [bV_zero] at hG
 rw [World.size_alloc] at hG hgb
 have K2:=K.below hgb (by simp)
 have LB2:=LB.trans (hgb.mono (by omega))
 have hgs:=hG.lt
 clear hown hgr hgb K LB hi hy0 hy1 hy2 hbb k1
 rcases Nat.eq_zero_or_pos n with rfl | hn0
 ·have HP:=Lib.hid (show ReachedPost q 0 w (.returned (.slice (some ⟨w.heap.size + 1,0,none⟩) 0 0)) w2 from ⟨_,_,rfl,hG,by omega,LB2,fun h => absurd h (Nat.lt_irrefl 0),fun s hs => absurd hs (Nat.not_lt_zero _)⟩)
  go_wp2
  exact bodyPost_ret (v:=.slice (some ⟨w.heap.size + 1,0,none⟩) 0 0) (by simp [results,Tryz.results70,go_sem]) rfl HP.out
 ·have hne:((n:Int) == 0) = false:=by simp; omega
  have LQ:=(Below.refl w2.heap.size w2).alloc (Nat.le_refl _) (.cells #[.int .i64 0] 3)
  have HQ:=OwnQ.of_blk (w:=w2.alloc (.cells #[.int .i64 0] 3)) (base:=w.heap.size) (e:=3) (xs:=[.int .i64 0]) (g:=w2.heap.size) (by omega) (Blk.new w2 3 #[.int .i64 0]) (by unfold maxLen; decide)
  have hG3:=hG.below LQ hG.lt
  have c0:(w2.alloc (.cells #[.int .i64 0] 3)).cell? ⟨w.heap.size + 1,0,none⟩ = some (.bool false):=by rw [hG3.cell]; exact bV_at _ hn0
  have f0:=hG3.frozen 0
  have hW0:ReaW w ((w2.alloc (.cells #[.int .i64 0] 3)).setCell ⟨w.heap.size + 1,0,none⟩ (.bool true)) (w.heap.size + 1) n #[.string fr,.slice A1 n c1,.slice A2 n c2,.slice A3 n c3,.slice A4 n c4] (fun j => if j = 0 then true else false) [0] (.slice (some ⟨w2.heap.size,0,none⟩) 1 1):={
   box:=(K2.below LQ K2.lt).far (p:=⟨w.heap.size + 1,0,none⟩) (by show w.heap.size≠w.heap.size + 1; omega) _
   seen_:=by
    have:=hG3.set_ 0 (.bool true)
    rwa [bV_set _ _ _ _ hn0] at this
   que:=HQ.setCell (q_blk HQ hG3 (by decide)) _
   gS:=by omega
   bel:=(LB2.trans (LQ.mono LB2.size)).setCell (p:=⟨w.heap.size + 1,0,none⟩) (by show w.heap.size≤w.heap.size + 1; omega) _
   first:=rfl
   lt:=fun z hz => by rw [List.mem_singleton] at hz; omega }
  rw [World.setCell_alloc_past _ _ _ _ hgs] at hW0
  have HW0:=Lib.hid hW0
  clear hW0 HQ hG3 LQ hG K2 LB2
  go_wp2
  generalize w.heap.size + 1 = gS at *
  generalize (w2.setCell ⟨gS,0,none⟩ (.bool true)).alloc (.cells #[.int .i64 0] 3) = w3 at *
  clear c0 f0
  go_loopw [4] (fun wv wr => ∃ (seen:Nat→Bool) (xs:List Nat),ReaW w wr gS n #[.string fr,.slice A1 n c1,.slice A2 n c2,.slice A3 n c3,.slice A4 n c4] seen xs wv∧xs.length + offF seen n≤n + 1∧∀ s,s < n→seen s = true→s∈xs∨∀ b,b < 256→0≤q.nx s b→seen (q.nx s b).toNat = true) (fun wv wr => lenOfV wv + offW wr gS n)
  case atStart =>
   exact ⟨fun j => if j = 0 then true else false,[0],HW0.out,by have:=offF_le (fun j => if j = 0 then true else false) n; simp only [List.length_singleton]; omega,fun s _ hs => .inl (by
    by_cases e:s = 0
    ·rw [e]; exact List.mem_singleton.2 rfl
    ·simp [e] at hs)⟩
  case round =>
   clear HW0
   obtain ⟨seen,xs,HR,hpot,hcl⟩:=hrel
   have Hcl:=Lib.hid hcl
   clear hcl
   have hbz:=HR.bel.size
   rcases xs with _ | ⟨s,xs⟩
   ·obtain ⟨g,off,cap,rfl,_,_⟩:=HR.que.form
    have HP:=Lib.hid (show ReachedPost q n w (.returned (.slice (some ⟨gS,0,none⟩) n n)) wr from ⟨gS,seen,rfl,HR.seen_,HR.gS,HR.bel,fun _ => HR.first,fun s hs h => (Hcl.out s hs h).resolve_left (fun e => by cases e)⟩)
    have h00:(qV []).length = 0:=rfl
    clear HR
    go_wp2
    exact bodyPost_ret (v:=.slice (some ⟨gS,0,none⟩) n n) (by simp [results,Tryz.results70,go_sem]) rfl HP.out
   ·have hsn:=HR.lt s List.mem_cons_self
    have hq:=HR.que
    obtain ⟨g,off,cap,hv,hcell⟩:=hq.cell
    obtain ⟨g',off',cap',hv',hcap,hqt,hqt1⟩:=OwnQ.tail (x:=.int .i64 (s:Int)) (xs:=qV xs) hq
    rw [hv] at hv'
    injection hv' with hv1 hv2 hv3
    injection hv1 with hv1
    injection hv1 with hv1 hv1b
    subst hv1 hv1b hv3
    have hc0:wr.cell? ⟨g,off,none⟩ = some (.int .i64 (s:Int)):=hcell 0 _ rfl
    rw [show (qV (s :: xs)).length = xs.length + 1 from by rw [qV_len]; rfl] at hv
    rw [qV_len] at hqt hcap hqt1
    subst hv
    have hi1:(0:Int)≤(s:Int):=by omega
    have hi2:(s:Int) < (n:Int):=by omega
    obtain ⟨g1,o1,A1',d1,rfl,hg1,x0,Q0,y1,z1⟩:=R1.at_ s hsn
    have x1:=((HR.bel.mono hB).cell (p:=⟨g1,o1 + s,none⟩) (by show g1 < B; exact hg1)).trans x0
    have e1:(q.next.map fun r => r.map (Value.int .i64)).getD s [] = (q.next.getD s []).map (Value.int .i64):=by
     rw [List.getD_eq_getElem?_getD,List.getD_eq_getElem?_getD,List.getElem?_map]
     cases q.next[s]? <;> rfl
    rw [e1] at x1 Q0 y1
    simp only [List.length_map] at x1 Q0 y1
    rw [(HP6.out s (by rw [Hn.out]; exact hsn)).1] at x1 Q0 y1
    have HNr:=Lib.hid (fun (W:World) (hb:Below w.heap.size w W) => Q0.below (hb.mono hB))
    clear x0 Q0
    have k1:=HR.box.cell 1
    have hRt:ReaW w wr gS n #[.string fr,.slice (some ⟨g1,o1,none⟩) n c1,.slice A2 n c2,.slice A3 n c3,.slice A4 n c4] seen xs (.slice (some ⟨g,off + 1,none⟩) xs.length (cap - 1)):={ HR with que:=hqt,lt:=fun z hz => HR.lt z (List.mem_cons_of_mem _ hz) }
    have HRt:=Lib.hid hRt
    have HRt1:=Lib.hid (fun (e:cap = 1) => show ReaW w wr gS n #[.string fr,.slice (some ⟨g1,o1,none⟩) n c1,.slice A2 n c2,.slice A3 n c3,.slice A4 n c4] seen xs (.slice (some ⟨g,off,none⟩) xs.length 0) from { HR with que:=hqt1 e,lt:=fun z hz => HR.lt z (List.mem_cons_of_mem _ hz) })
    clear e1 hqt hqt1 hcell hq HR hRt
    have hpot2:xs.length + 1 + offF seen n≤n + 1:=by simpa using hpot
    clear hpot
    generalize hxl:xs.length = xl at *
    have HM0:=Lib.hid (show lenOfV (.slice (some ⟨g,off,none⟩) (xl + 1) cap) + offW wr gS n = xl + 1 + offF seen n by rw [offW_eq HRt.out.seen_]; rfl)
    go_wp2
    all_goals
     clear hc0 x1 k1
     go_loopw [4,33] (fun wv i wq => ∃ (b:Nat) (seen':Nat→Bool) (xs':List Nat) (vv:Value),vv = wv∧b≤256∧i = .int .i64 (b:Int)∧ReaW w wq gS n #[.string fr,.slice (some ⟨g1,o1,none⟩) n c1,.slice A2 n c2,.slice A3 n c3,.slice A4 n c4] seen' xs' vv∧xs'.length + offF seen' n≤xl + offF seen n ∧
      (∀ t,t < n→seen' t = true→t = s∨t∈xs'∨∀ b,b < 256→0≤q.nx t b→seen' (q.nx t b).toNat = true)∧(∀ b',b' < b→0≤q.nx s b'→seen' (q.nx s b').toNat = true)) (fun _ i _ => 256 - (intOf i).toNat)
     case atStart =>
      have hcl0:∀ t,t < n→seen t = true→t = s∨t∈xs∨∀ b,b < 256→0≤q.nx t b→seen (q.nx t b).toNat = true:=fun t ht hs => by
       rcases Hcl.out t ht hs with h | h
       ·rcases List.mem_cons.1 h with h | h
        ·exact .inl h
        ·exact .inr (.inl h)
       ·exact .inr (.inr h)
      first
       | exact ⟨0,seen,xs,_,rfl,Nat.zero_le _,rfl,HRt.out,by omega,hcl0,fun b' h => absurd h (Nat.not_lt_zero _)⟩
       | exact ⟨0,seen,xs,_,rfl,Nat.zero_le _,rfl,HRt1.out (by omega),by omega,hcl0,fun b' h => absurd h (Nat.not_lt_zero _)⟩
     case round =>
      obtain ⟨b,seen',xs',vv,rfl,hb,rfl,HR,hpot',hcl',hdone⟩:=hrel
      have Hcl':=Lib.hid hcl'
      have Hdone:=Lib.hid hdone
      have Hpot':=Lib.hid hpot'
      clear hcl' hdone
      have hbz':=HR.bel.size
      by_cases hlt:b < 256
      ·have hb1:(0:Int)≤(b:Int):=by omega
       have hb2:(b:Int) < 256:=by omega
       obtain ⟨z0,z1',_⟩:=HCk.out s b hsn hlt
       rw [Hn.out] at z1'
       obtain ⟨h1,q1,rfl,hh1,r1⟩:=cell_at (d:=0) (HNr.out wr HR.bel) b hlt
       have hnx:(q.next.getD s []).getD b 0 = q.nx s b:=rfl
       rw [hnx] at r1
       by_cases hneg:q.nx s b < 0
       ·have hd1:=Lib.hid (fun b' (h:b' < b + 1) (h0:0≤q.nx s b') => show seen' (q.nx s b').toNat = true from by
          rcases Nat.lt_or_ge b' b with h | h
          ·exact Hdone.out b' h h0
          ·obtain rfl:b' = b:=by omega
           omega)
        generalize q.nx s b = z at *
        go_wp2
        go_roundw
        case rel => exact ⟨b + 1,seen',xs',vv,rfl,by omega,by go_num,HR,Hpot'.out,Hcl'.out,hd1.out⟩
        case measure => simp [intOf]; omega
       ·obtain ⟨z,hz⟩:∃ z:Nat,q.nx s b = (z:Int):=⟨_,(Int.toNat_of_nonneg (by omega)).symm⟩
        have hzn:z < n:=by omega
        have HZ:=Lib.hid hz
        rw [hz] at r1 hneg
        have hzi1:(0:Int)≤(z:Int):=by omega
        have hzi2:(z:Int) < (n:Int):=by omega
        have u1:wr.cell? ⟨gS,z,none⟩ = some (.bool (seen' z)):=by rw [HR.seen_.cell]; exact bV_at _ hzn
        have u2:=HR.seen_.frozen z
        clear hz
        rcases hsz:seen' z with _ | _
        ·rw [hsz] at u1
         have hoff:=offF_set hzn hsz
         have HRm:=HR.mark z hzn
         have HRa:=HRm.call ((Below.refl (wr.setCell ⟨gS,z,none⟩ (.bool true)).heap.size _).alloc (Nat.le_refl _) (.cells #[.int .i64 (z:Int)] 3))
         have hxa:=(Blk.new (wr.setCell ⟨gS,z,none⟩ (.bool true)) 3 #[.int .i64 (z:Int)]).cell 0
         simp only [World.size_setCell] at hxa
         have hqa:=HRa.que
         have hbsa:=HRa.bel.size
         obtain ⟨i1,t0,t1,t2,t3⟩:=info_parts int_infoS
         have h63:(qV xs').length + 1≤maxLen:=by rw [qV_len]; unfold maxLen; have:=Hpot'.out; omega
         have hby:((qV xs').length + 1) * 8≤140737488355328:=by rw [qV_len]; have:=Hpot'.out; omega
         have hcl2:=Lib.hid (fun t (ht:t < n) (hs:(if t = z then true else seen' t) = true) => show t = s∨t∈xs' ++ [z]∨∀ b,b < 256→0≤q.nx t b→(if (q.nx t b).toNat = z then true else seen' (q.nx t b).toNat) = true from by
          by_cases e:t = z
          ·right; left; rw [e]; simp
          ·rw [if_neg e] at hs
           rcases Hcl'.out t ht hs with h | h | h
           ·exact .inl h
           ·exact .inr (.inl (List.mem_append_left _ h))
           ·right; right
            intro b2 hb2 h0
            rw [h b2 hb2 h0]; simp)
         have hd2:=Lib.hid (fun b' (h:b' < b + 1) (h0:0≤q.nx s b') => show (if (q.nx s b').toNat = z then true else seen' (q.nx s b').toNat) = true from by
          rcases Nat.lt_or_ge b' b with h | h
          ·rw [Hdone.out b' h h0]; simp
          ·obtain rfl:b' = b:=by omega
           rw [HZ.out,Int.toNat_natCast,if_pos rfl])
         clear hsz HR HRm
         go_wp2_with (at_builtin; refine wpList_append_q _ rfl _ _ 55 rfl w.heap.size 3 i1 _ 8 Tryz.underlying55 t0 t1 t2 t3 rfl _ _ rfl hqa wr.heap.size (.int .i64 (z:Int)) rfl hxa rfl h63 hby hbsa ?_; intro v' w5 hown hgrow hloc)
         go_roundw
         case rel =>
          have HRp:=HRa.push hzn hown hgrow
          exact ⟨b + 1,_,xs' ++ [z],_,rfl,by omega,by go_num,HRp,by rw [List.length_append,List.length_singleton]; have:=Hpot'.out; omega,hcl2.out,hd2.out⟩
         case measure => simp [intOf]; omega
        ·rw [hsz] at u1
         have hd1:=Lib.hid (fun b' (h:b' < b + 1) (h0:0≤q.nx s b') => show seen' (q.nx s b').toNat = true from by
          rcases Nat.lt_or_ge b' b with h | h
          ·exact Hdone.out b' h h0
          ·obtain rfl:b' = b:=by omega
           rw [HZ.out,Int.toNat_natCast]; exact hsz)
         clear hsz
         go_wp2
         go_roundw
         case rel => exact ⟨b + 1,seen',xs',vv,rfl,by omega,by go_num,HR,Hpot'.out,Hcl'.out,hd1.out⟩
         case measure => simp [intOf]; omega
      ·obtain rfl:b = 256:=by omega
       have hfin:=Lib.hid (show ∃ (seen:Nat→Bool) (xs:List Nat),ReaW w wr gS n #[.string fr,.slice (some ⟨g1,o1,none⟩) n c1,.slice A2 n c2,.slice A3 n c3,.slice A4 n c4] seen xs vv∧xs.length + offF seen n≤n + 1∧∀ s,s < n→seen s = true→s∈xs∨∀ b,b < 256→0≤q.nx s b→seen (q.nx s b).toNat = true from
        ⟨seen',xs',HR,by have:=Hpot'.out; omega,fun t ht hst => by
         rcases Hcl'.out t ht hst with h | h | h
         ·subst h; exact .inr Hdone.out
         ·exact .inl h
         ·exact .inr h⟩)
       have hms:lenOfV vv + offW wr gS n < xl + 1 + offF seen n:=by
        rw [offW_eq HR.seen_]
        obtain ⟨ga,oa,ca,hva,_⟩:=HR.que.form
        rw [hva,qV_len]
        show xs'.length + _ < _
        have:=Hpot'.out
        omega
       have HMs:=Lib.hid hms
       clear hms
       go_wp2
       exact ⟨hfin.out,by have h1:=HMs.out; have h2:=HM0.out; omega⟩
end Go.Proofs.YtcondkihpmmnnaaGreatDoor
namespace Go.Proofs.YtcondkihpmmnnaaGreatDoor
open Go.RowKit Go.Sort
structure BackOk (q:SeqM) (n:Nat) (rows:Nat→List Int) (s b:Nat):Prop where
 sound:∀ z,z < n→∀ x∈rows z,∃ t:Nat,x = (t:Int)∧t < n∧∃ c,c < 256∧q.nx t c = (z:Int)
 full:∀ t c,c < 256→(t < s∨t = s∧c < b)→∀ z,z < n→q.nx t c = (z:Int)→(t:Int)∈rows z
 len:∀ z,(rows z).length≤s * 256 + b
theorem BackOk.start (q:SeqM) (n:Nat):BackOk q n (fun _ => []) 0 0 :=
 ⟨fun _ _ _ h => (by cases h),fun t c _ h => (by omega),fun _ => Nat.zero_le _⟩
theorem BackOk.next {q:SeqM} {n:Nat} {rows:Nat→List Int} {s:Nat} (h:BackOk q n rows s 256):BackOk q n rows (s + 1) 0 :=
 ⟨h.sound,fun t c hc ht => h.full t c hc (by omega),fun z => by have:=h.len z; omega⟩
theorem BackOk.pass {q:SeqM} {n:Nat} {rows:Nat→List Int} {s b:Nat} (h:BackOk q n rows s b) (hp:∀ z,z < n→q.nx s b = (z:Int)→(s:Int)∈rows z):BackOk q n rows s (b + 1) :=
 ⟨h.sound,fun t c hc ht z hz e => by
  by_cases e2:t = s∧c = b
  ·obtain ⟨rfl,rfl⟩:=e2; exact hp z hz e
  ·exact h.full t c hc (by omega) z hz e,fun z => by have:=h.len z; omega⟩
theorem BackOk.put {q:SeqM} {n:Nat} {rows:Nat→List Int} {s b z:Nat} (h:BackOk q n rows s b) (hs:s < n) (hb:b < 256) (hz:q.nx s b = (z:Int)):BackOk q n (fun t => if t = z then rows z ++ [(s:Int)] else rows t) s (b + 1):=by
 refine ⟨fun y hy x hx => ?_,fun t c hc ht y hy e => ?_,fun y => ?_⟩
 ·by_cases e:y = z
  ·subst e
   rw [if_pos rfl] at hx
   rcases List.mem_append.1 hx with hx | hx
   ·exact h.sound y hy x hx
   ·rw [List.mem_singleton] at hx
    exact ⟨s,hx,hs,b,hb,hz⟩
  ·rw [if_neg e] at hx; exact h.sound y hy x hx
 ·by_cases e2:t = s∧c = b
  ·obtain ⟨rfl,rfl⟩:=e2
   have:y = z:=by omega
   rw [if_pos this]; simp
  ·have:=h.full t c hc (by omega) y hy e
   by_cases e3:y = z
   ·rw [if_pos e3,← e3]; exact List.mem_append_left _ this
   ·rw [if_neg e3]; exact this
 ·have:=h.len y
  by_cases e:y = z
  ·rw [if_pos e,List.length_append,List.length_singleton,← e]; omega
  ·rw [if_neg e]; omega
structure BakW (w wr:World) (LB n:Nat) (cs:Array Value) (vs:List Value) (rows:Nat→List Int):Prop where
 box:Blk wr w.heap.size 27 cs
 grp:Grp encI 1 wr w.heap.size LB n 55 3 vs rows
 bel:Below w.heap.size w wr
section
variable {w wr w':World} {LB n:Nat} {cs:Array Value} {vs:List Value} {rows:Nat→List Int}
theorem BakW.call (h:BakW w wr LB n cs vs rows) (hb:Below wr.heap.size wr w'):BakW w w' LB n cs vs rows :=
 ⟨h.box.below hb h.box.lt,h.grp.call hb,h.bel.trans (hb.mono h.bel.size)⟩
theorem BakW.put (h:BakW w wr LB n cs vs rows) (s:Nat) (hs:s < n) {v':Value} (x:Int) (hg:wr.grownBy w' (vs.getD s nilV).ownBlock) (ho:w'.ownsRow w.heap.size 3 1 v' ((rows s).length + 1) (encs encI (rows s) ++ encI x)) (hl:v'.ownBlock = (vs.getD s nilV).ownBlock∨v'.ownBlock = some wr.heap.size) :
    BakW w (w'.setCell ⟨LB,s,none⟩ v') LB n cs (vs.set s v') (fun t => if t = s then rows s ++ [x] else rows t):=by
 have hr:=h.grp.row s hs
 have hL:=own_lt h.grp.own LB rfl
 exact ⟨(blk_keep h.box hg (own_blk hr h.box (by decide))).far (p:=⟨LB,s,none⟩) (fun e => own_blk h.grp.own h.box (by decide) (by rw [e]; rfl)) _,h.grp.put (by decide) s hs x hg ho hl,
  (h.bel.grown hg h.bel.size (fun k hk => (own_lt hr k hk).1)).setCell (p:=⟨LB,s,none⟩) hL.1 _⟩
end
end Go.Proofs.YtcondkihpmmnnaaGreatDoor
namespace Go.Proofs.YtcondkihpmmnnaaGreatDoor
open Go.RowKit Go.Sort
theorem maker_nil {Q:Exit→Act→World→Prop} {base:Act} {w:World} {ds:List Tmp} {o:Oper} {d:Tmp} (hd:o.dst = some d) (hg:o.guard = none) (hop:o.op = Op.buildSlice 55 0 #[]) :
    Maker Tryz.prog Q base w ds o d (fun v W => ∃ g,v = .slice (some ⟨g,0,none⟩) 0 0∧w.heap.size≤g∧Blk W g 3 #[]):=by
 refine ⟨hd,hg,?_,?_⟩
 ·rintro v W W' ⟨g,rfl,hgz,ho⟩ hb
  exact ⟨g,rfl,hgz,ho.below hb ho.lt⟩
 ·intro act W K hag hb hK
  have hres:K (act.put (some d) (.slice (some ⟨W.heap.size,0,none⟩) 0 0)) (W.alloc (.cells #[] 3)):=hK _ _ ((Below.refl _ W).alloc (Nat.le_refl _) _) ⟨W.heap.size,rfl,hb.size,Blk.new W _ _⟩
  unfold Oper.wp
  simp only [execOp,hop]
  simp [go_sem]
  rw [hd]
  exact hres
structure FroW (W0 wr:World) (gL gM gW n:Nat) (k:Frt) (wts:Nat→Bool) (xs:List Nat) (v:Value):Prop where
 l:Blk wr gL 9 (kL k n).toArray
 m:Blk wr gM 4 (bV k.some n)
 w:Blk wr gW 4 (bV wts n)
 que:OwnQ wr W0.heap.size 3 v (qV xs)
 ne:gM≠gW
 bL:W0.heap.size≤gL
 bM:W0.heap.size≤gM
 bW:W0.heap.size≤gW
 bel:Below W0.heap.size W0 wr
section
variable {W0 wr w':World} {gL gM gW n:Nat} {k:Frt} {wts:Nat→Bool} {xs:List Nat} {v:Value}
theorem FroW.call (h:FroW W0 wr gL gM gW n k wts xs v) (hb:Below wr.heap.size wr w'):FroW W0 w' gL gM gW n k wts xs v :=
 ⟨h.l.below hb h.l.lt,h.m.below hb h.m.lt,h.w.below hb h.w.lt,h.que.below hb,h.ne,h.bL,h.bM,h.bW,h.bel.trans (hb.mono h.bel.size)⟩
theorem FroW.wait (h:FroW W0 wr gL gM gW n k wts xs v) (z:Nat) (hz:z < n) (b:Bool):FroW W0 (wr.setCell ⟨gW,z,none⟩ (.bool b)) gL gM gW n k (fun j => if j = z then b else wts j) xs v:=by
 refine ⟨h.l.far (p:=⟨gW,z,none⟩) (fun e => Blk.ne_ h.l h.w (by decide) e) _,h.m.far (p:=⟨gW,z,none⟩) h.ne _,?_,h.que.setCell (q_blk h.que h.w (by decide)) _,h.ne,h.bL,h.bM,h.bW,h.bel.setCell (p:=⟨gW,z,none⟩) h.bW _⟩
 have:=h.w.set_ z (.bool b)
 rwa [bV_set _ _ _ _ hz] at this
theorem kL_set (k:Frt) (n s:Nat) (f:ByteArray) (hs:s < n):(kL k n).toArray.setIfInBounds s (.string f) = (kL (k.put s f) n).toArray:=by
 unfold kL
 rw [List.setIfInBounds_toArray,rowV_set _ _ _ _ hs]
 congr 1
 unfold rowV
 apply List.map_congr_left
 intro j _
 unfold Frt.put
 show (if j = s then Value.string f else .string (k.l j)) = .string (if j = s then f else k.l j)
 split <;> rfl
theorem FroW.tell (h:FroW W0 wr gL gM gW n k wts xs v) (s:Nat) (hs:s < n) (f:ByteArray):FroW W0 ((wr.setCell ⟨gL,s,none⟩ (.string f)).setCell ⟨gM,s,none⟩ (.bool true)) gL gM gW n (k.put s f) wts xs v:=by
 have n1:gL≠gM:=Blk.ne_ h.l h.m (by decide)
 have n2:gL≠gW:=Blk.ne_ h.l h.w (by decide)
 refine ⟨?_,?_,((h.w.far (p:=⟨gL,s,none⟩) n2.symm _).far (p:=⟨gM,s,none⟩) h.ne.symm _),(h.que.setCell (p:=⟨gL,s,none⟩) (q_blk h.que h.l (by decide)) _).setCell (p:=⟨gM,s,none⟩) (q_blk h.que h.m (by decide)) _,h.ne,h.bL,h.bM,h.bW,(h.bel.setCell (p:=⟨gL,s,none⟩) h.bL _).setCell (p:=⟨gM,s,none⟩) h.bM _⟩
 ·have:=h.l.set_ s (.string f)
  rw [kL_set _ _ _ _ hs] at this
  exact this.far (p:=⟨gM,s,none⟩) n1 _
 ·have:=(h.m.far (p:=⟨gL,s,none⟩) n1.symm (.string f)).set_ s (.bool true)
  rwa [bV_set _ _ _ _ hs] at this
theorem FroW.push (h:FroW W0 wr gL gM gW n k wts xs v) {v':Value} {z:Nat} (ho:OwnQ w' W0.heap.size 3 v' (qV xs ++ [.int .i64 (z:Int)])) (hg:wr.grownBy w' (qBlock v)):FroW W0 w' gL gM gW n k wts (xs ++ [z]) v':=by
 have n1:=q_blk h.que h.l (by decide)
 have n2:=q_blk h.que h.m (by decide)
 have n3:=q_blk h.que h.w (by decide)
 refine ⟨h.l.grown hg (fun e => n1 e.symm),h.m.grown hg (fun e => n2 e.symm),h.w.grown hg (fun e => n3 e.symm),?_,h.ne,h.bL,h.bM,h.bW,h.bel.grown hg h.bel.size (fun k hk => (h.que.lt k hk).1)⟩
 have e:qV (xs ++ [z]) = qV xs ++ [.int .i64 (z:Int)]:=by unfold qV; simp
 rw [e]; exact ho
def rankW (w:World) (gL gM n C:Nat):Nat:=((List.range n).map fun s => match w.cell? ⟨gM,s,none⟩ with
 | some (.bool true) => (match w.cell? ⟨gL,s,none⟩ with | some (.string x) => x.size + 1 | _ => 0)
 | _ => C).sum
theorem FroW.rank (h:FroW W0 wr gL gM gW n k wts xs v) (C:Nat):rankW wr gL gM n C = rankF k n C:=by
 unfold rankW rankF
 congr 1
 apply List.map_congr_left
 intro s hs
 have hs:=List.mem_range.1 hs
 rw [h.m.cell,bV_at _ hs,h.l.cell]
 have:(kL k n).toArray[s]? = some (.string (k.l s)):=by unfold kL; rw [List.getElem?_toArray,rowV_at _ hs]
 rw [this]
 cases k.some s <;> rfl
end
def endsQ (q:SeqM) (j:Nat):List Nat:=(List.range j).filter q.en
theorem endsQ_next (q:SeqM) (j:Nat):endsQ q (j + 1) = endsQ q j ++ if q.en j = true then [j] else []:=by
 unfold endsQ
 rw [List.range_succ,List.filter_append]
 congr 1
 split
 ·rename_i h; rw [List.filter_cons_of_pos h]; rfl
 ·rename_i h; rw [List.filter_cons_of_neg h]; rfl
def k0F:Frt:=⟨fun _ => ByteArray.empty,fun _ => false⟩
theorem cand_k0 (q:SeqM) (s:Nat):cand q k0F s = candE q s:=by
 unfold cand candN
 have:(List.range 256).flatMap (candB q k0F s) = []:=by
  rw [List.flatMap_eq_nil_iff]
  intro b _
  unfold candB
  rw [if_pos (.inr rfl)]
 rw [this,List.append_nil]
theorem fro_start {q:SeqM} {n:Nat} {wts:Nat→Bool} (h:∀ s,s < n→(wts s = true↔s∈endsQ q n)):FroI q n k0F wts (endsQ q n):=by
 refine ⟨FrOk.start q n,fun s => by show (0:Nat)≤_; omega,h,List.Nodup.sublist List.filter_sublist List.nodup_range,fun s hs => ?_,fun s hs hn => ?_,fun s hs => ?_⟩
 ·exact List.mem_range.1 (List.mem_filter.1 hs).1
 ·have he:q.en s = false:=by
    rcases e:q.en s with _ | _
    ·rfl
    ·exact absurd (List.mem_filter.2 ⟨List.mem_range.2 hs,e⟩) hn
  refine ⟨fun h => ?_,fun h => by cases h⟩
  rw [cand_k0] at h
  unfold candE at h
  rw [he] at h
  exact absurd rfl h
 ·rw [cand_k0]
  unfold candE
  rw [if_pos (List.mem_filter.1 hs).2]
  exact List.cons_ne_nil _ _
end Go.Proofs.YtcondkihpmmnnaaGreatDoor
namespace Go.Proofs.YtcondkihpmmnnaaGreatDoor
open Go.RowKit Go.Sort
def FrontsPost (q:SeqM) (n:Nat) (w:World) (e:Ending) (w':World):Prop :=
 ∃ gL gM k,e = .returned (.tuple #[.slice (some ⟨gL,0,none⟩) n n,.slice (some ⟨gM,0,none⟩) n n])∧Blk w' gL 9 (kL k n).toArray∧Blk w' gM 4 (bV k.some n)∧w.heap.size≤gL∧w.heap.size≤gM∧Below w.heap.size w w' ∧
  (∀ s,(k.l s).size≤4096 * n)∧Fronts q k
def wtsE (q:SeqM) (j t:Nat):Bool:=decide (t < j) && q.en t
theorem wtsE_yes {q:SeqM} {j:Nat} (h:q.en j = true):(fun t => if t = j then true else wtsE q j t) = wtsE q (j + 1):=by
 funext t
 unfold wtsE
 by_cases e:t = j
 ·subst e; simp [h]
 ·have:(t < j + 1)↔(t < j):=by omega
  simp [e,this]
theorem wtsE_no {q:SeqM} {j:Nat} (h:q.en j = false):wtsE q j = wtsE q (j + 1):=by
 funext t
 unfold wtsE
 by_cases e:t = j
 ·subst e; simp [h]
 ·have:(t < j + 1)↔(t < j):=by omega
  simp [this]
theorem reads_blk {w:World} {g n:Nat} {T:TypeId} {xs:List Value} (h:Blk w g T xs.toArray) (hn:xs.length = n):Reads w w.heap.size 1 (some ⟨g,0,none⟩) n xs :=
 ⟨by rw [Nat.mul_one]; exact hn,fun _ => ⟨_,rfl,h.lt,fun j u hj => by rw [add_mk,Nat.zero_add,h.cell]; simpa using hj⟩⟩
theorem flatMap_one {α β:Type} (f:α→β):∀ l:List α,(l.flatMap fun x => [f x]) = l.map f
 | [] => rfl
 | x :: l => by rw [List.flatMap_cons,flatMap_one f l]; rfl
theorem cand_ne {q:SeqM} {k:Frt} {t c s:Nat} (hc:c < 256) (hx:q.nx t c = (s:Int)) (hs:k.some s = true):cand q k t≠[] :=
 List.ne_nil_of_mem (cand_mem.2 (.inr ⟨c,hc,by omega,by rw [hx]; exact hs,rfl⟩))
theorem getD_mem0 {α:Type} {L:List α} {j:Nat} {d:α} (h:j < L.length):L.getD j d∈L:=by
 rw [List.getD_eq_getElem?_getD,List.getElem?_eq_getElem h]; exact List.getElem_mem _
theorem drop_getD {α:Type} {L:List α} {j:Nat} {d:α} (h:j < L.length):L.drop j = L.getD j d :: L.drop (j + 1):=by
 rw [List.getD_eq_getElem?_getD,List.getElem?_eq_getElem h]; exact List.drop_eq_getElem_cons h
set_option maxRecDepth 100000 in
set_option maxHeartbeats 16000000 in
theorem fronts_any (q:SeqM) (v:Value) (B n:Nat) (w:World) (HS:SeqAt w B q v) (hB:B≤w.heap.size) (hck:ckB q = true) (hn:q.next.length = n) :
    Calls Tryz.prog 69 #[v] w (FrontsPost q n w):=by
 have HS0:=Lib.hid HS
 obtain ⟨A1,c1,A2,c2,A3,c3,A4,c4,rfl,hf,l1,l2,l3,l4,m1,m2,m3,m4,R1,hz,R2,hsz,R3,R4,htl⟩:=HS
 obtain ⟨p1,p2,p3,p4,p5,p6⟩:=ck_parts hck
 have HP6:=Lib.hid p6
 have HCk:=Lib.hid (fun s b (hs:s < n) (hb:b < 256) => ckB_nx hck (s:=s) (by rw [hn]; exact hs) hb)
 rw [p2,p3,p4] at HS0
 rw [p2,p3,p4]
 rw [p3] at R3 l3
 rw [hn] at p1 l1 R1 R3 l3 HS0 ⊢
 have Hn:=Lib.hid (And.intro hn hck)
 generalize q.front = fr at *
 have K:=Blk.new w 27 #[.string fr,.slice A1 n c1,.slice A2 n c2,.slice A3 n c3,.slice A4 n c4]
 have LB:=(Below.refl w.heap.size w).alloc (Nat.le_refl _) (.cells #[.string fr,.slice A1 n c1,.slice A2 n c2,.slice A3 n c3,.slice A4 n c4] 27)
 have k1:=K.cell 1
 obtain ⟨i0,hi,hy0,hy1,hy2⟩:=info_parts slI_info
 have hbb:i0.bytes * n≤281474976710656:=by rw [hy2]; omega
 have hmx:n≤maxLen:=by unfold maxLen; omega
 have HR1:=Lib.hid R1
 have HR3:=Lib.hid R3
 clear R2 R4 hz hsz htl p2 p3 p4 p5 p6 hck hn l2 l4 R3 R1
 go_enter Tryz.func69,Tryz.ntmps69
 go_upto_region 3 with (at_make; refine wpList_make_full _ rfl _ _ 22 rfl (w.alloc (.cells #[.string fr,.slice A1 n c1,.slice A2 n c2,.slice A3 n c3,.slice A4 n c4] 27)).heap.size 55 i0 _ 1 Tryz.underlying22 hi hy0 hy1 _ _ (n:Int) (n:Int) n rfl rfl rfl rfl hbb hmx (Nat.le_refl _) ?_; intro w2 hown hgr)
 have hgb:=(Below.refl (w.alloc (.cells #[.string fr,.slice A1 n c1,.slice A2 n c2,.slice A3 n c3,.slice A4 n c4] 27)).heap.size _).grown hgr (Nat.le_refl _) (fun k e => by cases e)
 rw [show (Value.slice none 0 0).cells = #[nilV] from rfl,Nat.mul_one,toList_madeCells_one,World.size_alloc] at hown
 rw [World.size_alloc] at hgb
 have HB0:BakW w w2 (w.heap.size + 1) n #[.string fr,.slice A1 n c1,.slice A2 n c2,.slice A3 n c3,.slice A4 n c4] (List.replicate n nilV) (fun _ => []) :=
  ⟨K.below hgb (by simp),grp_nils (own_base hown (by omega)) (fun _ => rfl),LB.trans (hgb.mono (by omega))⟩
 have HB0':=Lib.hid HB0
 have k1:=HB0.box.cell 1
 have HBk:=Lib.hid (BackOk.start q n)
 clear hown hgr hgb K LB hi hy0 hy1 hy2 hbb HB0
 generalize w.heap.size + 1 = LBk at *
 go_wp2
 clear k1
 go_loopw [28] (fun i wr => ∃ (s:Nat) (vs:List Value) (rows:Nat→List Int),s≤n∧i = .int .i64 (s:Int)∧BakW w wr LBk n #[.string fr,.slice A1 n c1,.slice A2 n c2,.slice A3 n c3,.slice A4 n c4] vs rows∧BackOk q n rows s 0) (fun i _ => n - (intOf i).toNat)
 case atStart => exact ⟨0,_,_,Nat.zero_le _,rfl,HB0'.out,HBk.out⟩
 case round =>
  clear HB0' HBk
  obtain ⟨s,vs,rows,hs,rfl,HB,hbk⟩:=hrel
  have hbz:=HB.bel.size
  by_cases hlt:s < n
  ·have hi1:(0:Int)≤(s:Int):=by omega
   have hi2:(s:Int) < (n:Int):=by omega
   obtain ⟨g1,o1,A1',d1,rfl,hg1,x0,Q0,y1,z1⟩:=HR1.out.at_ s hlt
   have x1:=((HB.bel.mono hB).cell (p:=⟨g1,o1 + s,none⟩) (by show g1 < B; exact hg1)).trans x0
   have e1:(q.next.map fun r => r.map (Value.int .i64)).getD s [] = (q.next.getD s []).map (Value.int .i64):=by
    rw [List.getD_eq_getElem?_getD,List.getD_eq_getElem?_getD,List.getElem?_map]
    cases q.next[s]? <;> rfl
   rw [e1] at x1 Q0 y1
   simp only [List.length_map] at x1 Q0 y1
   rw [(HP6.out s (by rw [Hn.out.1]; exact hlt)).1] at x1 Q0 y1
   have HNr:=Lib.hid (fun (W:World) (hb:Below w.heap.size w W) => Q0.below (hb.mono hB))
   have k1:=HB.box.cell 1
   have HB1:=Lib.hid HB
   have Hbk:=Lib.hid hbk
   clear x0 Q0 e1 HB hbk
   go_wp2
   clear x1 k1
   go_loopw [35] (fun i wr => ∃ (b:Nat) (vs:List Value) (rows:Nat→List Int),b≤256∧i = .int .i64 (b:Int)∧BakW w wr LBk n #[.string fr,.slice (some ⟨g1,o1,none⟩) n c1,.slice A2 n c2,.slice A3 n c3,.slice A4 n c4] vs rows∧BackOk q n rows s b) (fun i _ => 256 - (intOf i).toNat)
   case atStart => exact ⟨0,vs,rows,Nat.zero_le _,rfl,HB1.out,Hbk.out⟩
   case round =>
    clear HB1 Hbk vs rows
    obtain ⟨b,vs,rows,hb,rfl,HB,hbk⟩:=hrel
    have hbz':=HB.bel.size
    have Hbk:=Lib.hid hbk
    by_cases hltb:b < 256
    ·have hb1:(0:Int)≤(b:Int):=by omega
     have hb2:(b:Int) < 256:=by omega
     obtain ⟨z0,z1',_⟩:=HCk.out s b hlt hltb
     rw [Hn.out.1] at z1'
     obtain ⟨h1,q1,rfl,hh1,r1⟩:=cell_at (d:=0) (HNr.out wr HB.bel) b hltb
     have hnx:(q.next.getD s []).getD b 0 = q.nx s b:=rfl
     rw [hnx] at r1
     clear hbk
     by_cases hneg:q.nx s b < 0
     ·have hp:=Lib.hid (Hbk.out.pass (fun z hz e => by omega))
      have hge:¬ q.nx s b ≥ 0:=by omega
      have hdg:decide (0≤q.nx s b) = false:=decide_eq_false hge
      have HBc:=Lib.hid (fun (W:World) (h:Below wr.heap.size wr W) => HB.call h)
      generalize q.nx s b = z at *
      go_wp2
      refine wp_region_quiet_below (by kernel_rfl) (by kernel_rfl) ?_
      repeat (go_big_quiet_step (fail))
      refine wpQuiet_nil ?_
      intro w5 hw5
      have HB5:=Lib.hid (HBc.out w5 (below_of hw5))
      clear hw5 r1 HB
      go_wp2
      go_roundw
      case rel => exact ⟨b + 1,vs,rows,by omega,by go_num,HB5.out,hp.out⟩
      case measure => simp [intOf]; omega
     ·obtain ⟨z,hz⟩:∃ z:Nat,q.nx s b = (z:Int):=⟨_,(Int.toNat_of_nonneg (by omega)).symm⟩
      have hzn:z < n:=by omega
      have HZ:=Lib.hid hz
      rw [hz] at r1 hneg
      have hzi1:(0:Int)≤(z:Int):=by omega
      have hzi2:(z:Int) < (n:Int):=by omega
      have hge:(z:Int) ≥ 0:=by omega
      have hdg:decide ((0:Int)≤(z:Int)) = true:=decide_eq_true hzi1
      clear hz
      have hrow:=HB.grp.row z hzn
      obtain ⟨Av,cv,hv,hv1,hv2,hv3⟩:=own_form hrow
      have hcl:=own_cellAt HB.grp.own z hzn nilV
      rw [hv] at hcl
      have hRd:=Reads.of_own (hv ▸ hrow)
      have hlen:=Hbk.out.len z
      have hcl':=cell_regrown hcl
      have Hput:=Lib.hid (Hbk.out.put hlt hltb HZ.out)
      have Hpass:=Lib.hid (fun (h:(s:Int)∈rows z) => Hbk.out.pass (fun z' hz' e => by
       have:z' = z:=by have:=HZ.out; omega
       rw [this]; exact h))
      have HBc:=Lib.hid (fun (W:World) (h:Below wr.heap.size wr W) => HB.call h)
      rcases hrz:(rows z).length with _ | m
      ·rw [hrz] at hcl hcl' hv
       go_wp2
       refine wp_region_quiet_below (by kernel_rfl) (by kernel_rfl) ?_
       repeat (go_big_quiet_step (fail))
       refine wpQuiet_nil ?_
       intro w5 hw5
       have HB5:=HBc.out w5 (below_of hw5)
       have LBa:=(Below.refl w5.heap.size w5).alloc (Nat.le_refl _) (.cells #[.int .i64 (s:Int)] 3)
       have HBa:=HB5.call LBa
       have hcl5:=own_cellAt HB5.grp.own z hzn nilV
       rw [hv] at hcl5
       have hrow9:=HBa.grp.row z hzn
       rw [hv,hrz] at hrow9
       have hrd:=reads_allocK w5 [.int .i64 (s:Int)] 3 1 1 rfl
       obtain ⟨i1,t0,t1,t2,t3⟩:=info_parts int_infoS
       have hone:=encI_one (s:Int)
       have h63:0 + 1≤maxLen:=by unfold maxLen; omega
       have hby:(0 + 1) * 8≤140737488355328:=by omega
       have hbs:=HBa.bel.size
       have HBa':=Lib.hid HBa
       have hkeep:=fun (w7:World) (hgrow:(w5.alloc (.cells #[.int .i64 (s:Int)] 3)).grownBy w7 (Value.slice Av 0 cv).ownBlock) => HBa.grp.own.kept (w':=w7) (row:=(vs.getD z nilV).ownBlock) (by rw [hv]; exact hgrow) (apart_types HBa.grp.own (HBa.grp.row z hzn) (by decide)).or_none
       clear hw5 r1 HB hcl hcl' LBa HB5 HBa hRd
       go_wp2_with (at_builtin; refine wpList_append_any _ rfl _ _ 55 rfl w.heap.size 3 i1 _ 1 8 Tryz.underlying55 t0 t1 t2 t3 rfl (by decide) _ _ _ rfl hrow9 _ (some ⟨w5.heap.size,0,none⟩) 1 1 [.int .i64 (s:Int)] rfl hrd hone h63 hby hbs ?_; intro v' w7 hown hgrow hloc; obtain ⟨A9,c9,rfl,_,_,_⟩:=own_form hown; have u3:=own_cellAt (hkeep w7 hgrow) z hzn nilV; have u4:=own_frozenAt (hkeep w7 hgrow) z)
       go_roundw
       case rel =>
        have HP:=HBa'.out.put z hzn (s:Int) (by rw [hv]; exact hgrow) (by rw [hrz]; exact hown) (by rw [hv]; exact hloc)
        exact ⟨b + 1,_,_,by omega,by go_num,HP,Hput.out⟩
       case measure => simp [intOf]; omega
      ·have hm:m + 1≤300000:=by omega
       rw [hrz] at hcl hcl' hRd hv
       have hlast:∃ x∈rows z,(rows z)[m]? = some x:=⟨(rows z)[m]'(by omega),List.getElem_mem _,List.getElem?_eq_getElem _⟩
       obtain ⟨x,hx,hxm⟩:=hlast
       obtain ⟨t,rfl,htn,c',hc',hxc⟩:=Hbk.out.sound z hzn x hx
       obtain ⟨ad,hAv,hadl,hcell⟩:=hRd.2 (by omega)
       obtain ⟨gz,rfl,hgz1,hgz2⟩:=hv3 (by omega)
       obtain rfl:=Option.some.inj hAv
       have hcm:=hcell m (.int .i64 (t:Int)) (by
        have:encs encI (rows z) = (rows z).map fun v => Value.int .i64 v:=by unfold encs encI; exact flatMap_one _ _
        rw [this,List.getElem?_map,hxm]; rfl)
       rw [add_mk,Nat.zero_add] at hcm
       have hcm':=cell_regrown hcm
       have hmi1:(0:Int)≤(m:Int):=by omega
       have hmi2:(m:Int) < (m:Int) + 1:=by omega
       have hne0:(((m:Nat):Int) + 1 == 0) = false:=by simp; omega
       by_cases hts:t = s
       ·have hxin:(s:Int)∈rows z:=by rw [← hts]; exact hx
        have hq:=Lib.hid (Hpass.out hxin)
        have hnt:((t:Int) != (s:Int)) = false:=by simp [hts]
        go_wp2
        refine wp_region_quiet_below (by kernel_rfl) (by kernel_rfl) ?_
        repeat (go_big_quiet_step (fail))
        refine wpQuiet_nil ?_
        intro w5 hw5
        have HB5:=Lib.hid (HBc.out w5 (below_of hw5))
        clear hw5 r1 HB
        go_wp2
        go_roundw
        case rel => exact ⟨b + 1,vs,rows,by omega,by go_num,HB5.out,hq.out⟩
        case measure => simp [intOf]; omega
       ·have hnt:((t:Int) != (s:Int)) = true:=by simp; omega
        go_wp2
        refine wp_region_quiet_below (by kernel_rfl) (by kernel_rfl) ?_
        repeat (go_big_quiet_step (fail))
        refine wpQuiet_nil ?_
        intro w5 hw5
        have HB5:=HBc.out w5 (below_of hw5)
        have LBa:=(Below.refl w5.heap.size w5).alloc (Nat.le_refl _) (.cells #[.int .i64 (s:Int)] 3)
        have HBa:=HB5.call LBa
        have hcl5:=own_cellAt HB5.grp.own z hzn nilV
        rw [hv] at hcl5
        have hrow9:=HBa.grp.row z hzn
        rw [hv,hrz] at hrow9
        have hrd:=reads_allocK w5 [.int .i64 (s:Int)] 3 1 1 rfl
        obtain ⟨i1,t0,t1,t2,t3⟩:=info_parts int_infoS
        have hone:=encI_one (s:Int)
        have h63:m + 1 + 1≤maxLen:=by unfold maxLen; omega
        have hby:(m + 1 + 1) * 8≤140737488355328:=by omega
        have hbs:=HBa.bel.size
        have HBa':=Lib.hid HBa
        have hkeep:=fun (w7:World) (hgrow:(w5.alloc (.cells #[.int .i64 (s:Int)] 3)).grownBy w7 (Value.slice (some ⟨gz,0,none⟩) (m + 1) cv).ownBlock) => HBa.grp.own.kept (w':=w7) (row:=(vs.getD z nilV).ownBlock) (by rw [hv]; exact hgrow) (apart_types HBa.grp.own (HBa.grp.row z hzn) (by decide)).or_none
        clear hw5 r1 HB hcl hcl' LBa HB5 HBa hRd hcm hcm' hcell
        go_wp2_with (at_builtin; refine wpList_append_any _ rfl _ _ 55 rfl w.heap.size 3 i1 _ 1 8 Tryz.underlying55 t0 t1 t2 t3 rfl (by decide) _ _ _ rfl hrow9 _ (some ⟨w5.heap.size,0,none⟩) 1 1 [.int .i64 (s:Int)] rfl hrd hone h63 hby hbs ?_; intro v' w7 hown hgrow hloc; obtain ⟨A9,c9,rfl,_,_,_⟩:=own_form hown; have u3:=own_cellAt (hkeep w7 hgrow) z hzn nilV; have u4:=own_frozenAt (hkeep w7 hgrow) z)
        go_roundw
        case rel =>
         have HP:=HBa'.out.put z hzn (s:Int) (by rw [hv]; exact hgrow) (by rw [hrz]; exact hown) (by rw [hv]; exact hloc)
         exact ⟨b + 1,_,_,by omega,by go_num,HP,Hput.out⟩
        case measure => simp [intOf]; omega
    ·obtain rfl:b = 256:=by omega
     have hbn:=Lib.hid hbk.next
     clear hbk
     go_wp2
     go_roundw
     case rel => exact ⟨s + 1,vs,rows,by omega,by go_num,HB,hbn.out⟩
     case measure => simp [intOf]; omega
  ·obtain rfl:n = s:=by omega
   obtain ⟨iL,tL,tL0,tL1,tL2⟩:=info_parts str_infoS
   obtain ⟨iM,tM,tM0,tM1,tM2⟩:=info_parts bool_infoS
   have HBw:=Lib.hid HB
   have Hbk:=Lib.hid hbk
   clear HB hbk
   go_wp2
   refine pair_gen (d0:=78) (d1:=80) (e0:=10) (F0:=fun v W => ∃ g,v = .slice (some ⟨g,0,none⟩) n n∧wr.drew.heap.size≤g∧W.ownsRow wr.drew.heap.size 9 1 v n (madeCells (Value.string ByteArray.empty).cells (n * 1)).toList) (F1:=fun v W => ∃ g,v = .slice (some ⟨g,0,none⟩) n n∧wr.drew.heap.size≤g∧W.ownsRow wr.drew.heap.size 4 1 v n (madeCells (Value.bool false).cells (n * 1)).toList) 5 [0,2] 1 3 4 (by kernel_rfl) (by kernel_rfl) rfl (by kernel_rfl) (by decide) rfl rfl rfl (by decide) (by decide) rfl rfl rfl ?_
   simp only [pickOps,List.getElem?_cons_zero,List.getElem?_cons_succ]
   repeat (go_big_quiet_step (fail))
   refine wpQuiet_nil ?_
   refine PairGoal.start _ ⟨by show 78 < 160; decide,by show 80 < 160; decide⟩
    (maker_slice rfl rfl 77 (by decide) 25 rfl 9 iL _ 1 Tryz.underlying25 tL tL0 tL1 n rfl (by rw [tL2]; omega) hmx)
    (maker_slice rfl rfl 79 (by decide) 24 rfl 4 iM _ 1 Tryz.underlying24 tM tM0 tM1 n rfl (by rw [tM2]; omega) hmx) ?_
   rintro vi vj W3 hb3 ⟨gL,rfl,gL1,hoL⟩ ⟨gM,rfl,gM1,hoM⟩
   rw [show (Value.string ByteArray.empty).cells = #[Value.string ByteArray.empty] from rfl,Nat.mul_one,toList_madeCells_one] at hoL
   rw [show (Value.bool false).cells = #[Value.bool false] from rfl,Nat.mul_one,toList_madeCells_one] at hoM
   have HL:=blk_of_made hoL
   have HM:=blk_of_made hoM
   rw [bV_zero] at HM
   clear hoL hoM
   simp only [Act.put]
   simp only [List.drop_succ_cons,List.drop_zero]
   go_wp2
   refine NoPanic.normal ?_
   go_wp2
   refine pair_gen (d0:=81) (d1:=83) (e0:=12) (F0:=fun v W => ∃ g,v = .slice (some ⟨g,0,none⟩) 0 0∧W3.drew.heap.size≤g∧Blk W g 3 #[]) (F1:=fun v W => ∃ g,v = .slice (some ⟨g,0,none⟩) n n∧W3.drew.heap.size≤g∧W.ownsRow W3.drew.heap.size 4 1 v n (madeCells (Value.bool false).cells (n * 1)).toList) 4 [1] 0 2 3 (by kernel_rfl) (by kernel_rfl) rfl (by kernel_rfl) (by decide) rfl rfl rfl (by decide) (by decide) rfl rfl rfl ?_
   simp only [pickOps,List.getElem?_cons_zero,List.getElem?_cons_succ]
   repeat (go_big_quiet_step (fail))
   refine wpQuiet_nil ?_
   refine PairGoal.start _ ⟨by show 81 < 160; decide,by show 83 < 160; decide⟩ (maker_nil rfl rfl rfl)
    (maker_slice rfl rfl 82 (by decide) 24 rfl 4 iM _ 1 Tryz.underlying24 tM tM0 tM1 n rfl (by rw [tM2]; omega) hmx) ?_
   rintro vi vj W4 hb4 ⟨gq,rfl,gq1,hQ⟩ ⟨gW,rfl,gW1,hoW⟩
   rw [show (Value.bool false).cells = #[Value.bool false] from rfl,Nat.mul_one,toList_madeCells_one] at hoW
   have HWw:=blk_of_made hoW
   rw [bV_zero] at HWw
   clear hoW
   have hgL:wr.heap.size≤gL:=gL1
   have hgM:wr.heap.size≤gM:=gM1
   have hgW:W3.heap.size≤gW:=gW1
   have hgq:W3.heap.size≤gq:=gq1
   have hLl:=HL.lt
   have hMl:=HM.lt
   have hz3:=hb3.size
   have hF0:FroW wr W4 gL gM gW n k0F (wtsE q 0) (endsQ q 0) (.slice (some ⟨gq,0,none⟩) 0 0):={
    l:=by
     have h0:(List.replicate n (Value.string ByteArray.empty)).toArray = (kL k0F n).toArray:=by
      congr 1
      unfold kL rowV k0F
      apply List.ext_getElem?
      intro j
      rw [List.getElem?_replicate,List.getElem?_map]
      by_cases hj:j < n
      ·rw [List.getElem?_range hj]; simp [hj]
      ·rw [List.getElem?_eq_none (by simpa using hj)]; simp [hj]
     rw [← h0]
     exact HL.below hb4 hLl
    m:=HM.below hb4 hMl
    w:=by
     have h0:wtsE q 0 = fun _ => false:=by funext t; unfold wtsE; simp
     rw [h0]; exact HWw
    que:=OwnQ.of_blk (xs:=[]) (by omega) hQ (Nat.zero_le _)
    ne:=by omega
    bL:=hgL
    bM:=hgM
    bW:=by omega
    bel:=hb3.trans (hb4.mono hz3) }
   have hbx4:=HBw.out.box.below (hF0.bel) HBw.out.box.lt
   have k3:=hbx4.cell 3
   have hwz:=HBw.out.bel.size
   have HF0:=Lib.hid hF0
   have hBwr:=Lib.hid HBw.out.bel
   clear hF0 hQ HWw HL HM hb3 hb4 hbx4 tL tL0 tL1 tL2 tM tM0 tM1 tM2
   simp only [Act.put,List.drop_succ_cons,List.drop_zero]
   go_wp2
   refine NoPanic.normal ?_
   go_wp2
   clear k3
   obtain ⟨W0,hW0⟩:∃ W,W = wr:=⟨_,rfl⟩
   subst hW0
   go_loopw [12,87] (fun wv i wr => ∃ (j:Nat) (vv:Value),vv = wv∧j≤n∧i = .int .i64 (j:Int)∧FroW W0 wr gL gM gW n k0F (wtsE q j) (endsQ q j) vv) (fun _ i _ => n - (intOf i).toNat)
   case atStart => exact ⟨0,_,rfl,Nat.zero_le _,rfl,HF0.out⟩
   case round =>
    obtain ⟨j,vv,rfl,hj,rfl,HF⟩:=hrel
    have hbzj:=HF.bel.size
    by_cases hltj:j < n
    ·have hj1:(0:Int)≤(j:Int):=by omega
     have hj2:(j:Int) < (n:Int):=by omega
     obtain ⟨ga,qa,rfl,hga,r1⟩:=cell_at (d:=false) ((HR3.out.below (hBwr.out.mono hB)).below ((HF.bel).mono (Nat.le_trans hB hwz))) j hltj
     have hen:q.ends.getD j false = q.en j:=rfl
     rw [hen] at r1
     have HF':=Lib.hid HF
     rcases he:q.en j with _ | _
     ·rw [he] at r1
      have hw2:=endsQ_next q j
      rw [he,if_neg (by decide),List.append_nil] at hw2
      have HN:=Lib.hid (show FroW W0 wr gL gM gW n k0F (wtsE q (j + 1)) (endsQ q (j + 1)) vv by rw [← wtsE_no he,hw2]; exact HF'.out)
      clear hw2 HF
      go_wp2
      go_roundw
      case rel => exact ⟨j + 1,vv,rfl,by omega,by go_num,HN.out⟩
      case measure => simp [intOf]; omega
     ·rw [he] at r1
      have hw2:=endsQ_next q j
      rw [he,if_pos rfl] at hw2
      have hxl:(endsQ q j).length≤1024:=by
       have h1:(endsQ q j).length≤j:=by unfold endsQ; exact Nat.le_trans (List.length_filter_le _ _) (by simp)
       omega
      have hxa:=(Blk.new wr 3 #[.int .i64 (j:Int)]).cell 0
      have HFa:=HF.call ((Below.refl wr.heap.size wr).alloc (Nat.le_refl _) (.cells #[.int .i64 (j:Int)] 3))
      have hqa:=HFa.que
      have hbsa:=HFa.bel.size
      obtain ⟨i1,t0,t1,t2,t3⟩:=info_parts int_infoS
      have h63:(qV (endsQ q j)).length + 1≤maxLen:=by rw [qV_len]; unfold maxLen; omega
      have hby:((qV (endsQ q j)).length + 1) * 8≤140737488355328:=by rw [qV_len]; omega
      have HN:=Lib.hid (fun (W:World) (v':Value) (h:FroW W0 W gL gM gW n k0F (fun t => if t = j then true else wtsE q j t) (endsQ q j ++ [j]) v') => show FroW W0 W gL gM gW n k0F (wtsE q (j + 1)) (endsQ q (j + 1)) v' by rw [← wtsE_yes he,hw2]; exact h)
      clear hw2 HF he HF'
      go_wp2_with (at_builtin; refine wpList_append_q _ rfl _ _ 55 rfl W0.heap.size 3 i1 _ 8 Tryz.underlying55 t0 t1 t2 t3 rfl _ _ rfl hqa wr.heap.size (.int .i64 (j:Int)) rfl hxa rfl h63 hby hbsa ?_; intro v' w5 hown hgrow hloc; have HP:=HFa.push hown hgrow; have u3:=(HP.w.cell j).trans (bV_at _ hltj); have u4:=HP.w.frozen j)
      go_roundw
      case rel => exact ⟨j + 1,_,rfl,by omega,by go_num,HN.out _ _ (HP.wait j hltj true)⟩
      case measure => simp [intOf]; omega
    ·obtain rfl:n = j:=by omega
     have HI:=Lib.hid (fro_start (q:=q) (n:=n) (wts:=wtsE q n) (fun s hs => by unfold wtsE endsQ; rw [List.mem_filter,List.mem_range]; simp [hs]))
     have HFn:=Lib.hid HF
     have HB2:=Lib.hid (fun (W:World) (h:Below W0.heap.size W0 W) => HBw.out.call h)
     have HRow:=Lib.hid (HBw.out.grp.read (own_lt HBw.out.grp.own _ rfl).2)
     clear HF
     go_wp2
     go_loopw [12] (fun wv wr => ∃ (k:Frt) (wts:Nat→Bool) (xs:List Nat),FroW W0 wr gL gM gW n k wts xs wv∧FroI q n k wts xs) (fun wv wr => rankW wr gL gM n (4096 * n + 4098) * (n + 1) + lenOfV wv)
     case atStart => exact ⟨k0F,_,_,HFn.out,HI.out⟩
     case round =>
      clear HFn HI
      obtain ⟨k,wts,xs,HF,HI⟩:=hrel
      have hbz:=HF.bel.size
      have hI:=Lib.hid HI
      rcases xs with _ | ⟨s,xs⟩
      ·obtain ⟨g,off,cap,rfl,_,_⟩:=HF.que.form
       have HP:=Lib.hid (show FrontsPost q n w (.returned (.tuple #[.slice (some ⟨gL,0,none⟩) n n,.slice (some ⟨gM,0,none⟩) n n])) wr from
        ⟨gL,gM,k,rfl,HF.l,HF.m,Nat.le_trans hwz HF.bL,Nat.le_trans hwz HF.bM,hBwr.out.trans (HF.bel.mono hwz),fun s => Nat.le_trans (hI.out.bnd s) (Nat.mul_le_mul_left _ (cntF_le _ _)),by
         have h1:=hI.out
         have h2:=Hn.out
         obtain ⟨h3,h4⟩:=h2
         subst h3
         exact h1.fronts h4⟩)
       clear HF HI
       go_wp2
       exact bodyPost_ret (v:=.tuple #[.slice (some ⟨gL,0,none⟩) n n,.slice (some ⟨gM,0,none⟩) n n]) (by simp [results,Tryz.results69,go_sem]) rfl HP.out
      ·have hsn:=HI.lt s List.mem_cons_self
       have hnd:(s :: xs).length≤n:=by
        have:=(HI.nd).length_le_of_subset (fun z hz => List.mem_range.2 (HI.lt z hz):(s :: xs) ⊆ List.range n)
        simpa using this
       have hq:=HF.que
       obtain ⟨g,off,cap,hv,hcell⟩:=hq.cell
       obtain ⟨g',off',cap',hv',hcap,hqt,hqt1⟩:=OwnQ.tail (x:=.int .i64 (s:Int)) (xs:=qV xs) hq
       rw [hv] at hv'
       injection hv' with hv1 hv2 hv3
       injection hv1 with hv1
       injection hv1 with hv1 hv1b
       subst hv1 hv1b hv3
       have hc0:wr.cell? ⟨g,off,none⟩ = some (.int .i64 (s:Int)):=hcell 0 _ rfl
       rw [show (qV (s :: xs)).length = xs.length + 1 from by rw [qV_len]; rfl] at hv
       rw [qV_len] at hqt hcap hqt1
       subst hv
       have hi1:(0:Int)≤(s:Int):=by omega
       have hi2:(s:Int) < (n:Int):=by omega
       have u1:=(HF.w.cell s).trans (bV_at _ hsn)
       have u2:=HF.w.frozen s
       have hFt:FroW W0 wr gL gM gW n k wts xs (.slice (some ⟨g,off + 1,none⟩) xs.length (cap - 1)):={ HF with que:=hqt }
       have HFt:=Lib.hid (hFt.wait s hsn false)
       have HFt1:=Lib.hid (fun (e:cap = 1) => (show FroW W0 wr gL gM gW n k wts xs (.slice (some ⟨g,off,none⟩) xs.length 0) from { HF with que:=hqt1 e }).wait s hsn false)
       have hB1:=HB2.out _ HFt.out.bel
       have k0:=hB1.box.cell 0
       have k1:=hB1.box.cell 1
       have k2:=hB1.box.cell 2
       have k3:=hB1.box.cell 3
       have k4:=hB1.box.cell 4
       have HM0:=Lib.hid (show rankW wr gL gM n (4096 * n + 4098) * (n + 1) + lenOfV (.slice (some ⟨g,off,none⟩) (xs.length + 1) cap) = rankF k n (4096 * n + 4098) * (n + 1) + (xs.length + 1) by rw [HF.rank]; rfl)
       clear hqt hqt1 hcell hq HF hFt hB1 HI
       go_wp2_with fail
       all_goals
        first
         | have HFv:=Lib.hid (HFt1.out (by omega))
         | have HFv:=Lib.hid HFt.out
        have hsz1:=HFv.out.bel.size
        refine (front_walk q _ (wr.setCell ⟨gW,s,none⟩ (.bool false)).heap.size s n (4096 * n) k (some ⟨gL,0,none⟩) (some ⟨gM,0,none⟩) n n _ ((HS0.out.below ((hBwr.out.trans (HFv.out.bel.mono hwz)).mono hB)).more (Nat.le_trans hB (Nat.le_trans hwz hsz1))) (Nat.le_refl _) Hn.out.2 Hn.out.1 hsn (reads_blk HFv.out.l (rowV_len _ _)) (reads_blk HFv.out.m (rowV_len _ _)) (fun z => Nat.le_trans (hI.out.bnd z) (Nat.mul_le_mul_left _ (cntF_le _ _))) (by omega)).mono ?_
        rintro e w2 ⟨rfl,hb2⟩
        have HF2:=HFv.out.call hb2
        have u3:=(HF2.m.cell s).trans (bV_at _ hsn)
        have u4:w2.cell? ⟨gL,s,none⟩ = some (.string (k.l s)):=by rw [HF2.l.cell]; unfold kL; rw [List.getElem?_toArray]; exact rowV_at _ hsn
        have x5:=HF2.l.frozen s
        have x6:=HF2.m.frozen s
        have hgm:=fun (v:Value) => HF2.m.far (p:=⟨gL,s,none⟩) (Blk.ne_ HF2.l HF2.m (by decide)).symm v
        have HT:=Lib.hid (fun (l:List Int) hl => hI.out.tell Hn.out.2 Hn.out.1 (l:=l) hl)
        have HSk:=Lib.hid (fun h1 h2 => hI.out.skip h1 h2)
        have hls:=lcpA_size (hI.out.size Hn.out.2 Hn.out.1)
        have hcn:=cntF_le k n
        have HDn:=Lib.hid (fun h => (hI.out.ok.down s h).2)
        have HRk:=Lib.hid (rankF_put (k:=k) (C:=4096 * n + 4098) (f:=lcpA (cand q k s)) hsn)
        have HF2':=Lib.hid HF2
        have HQf:=Lib.hid (ba_beqL (lcpA (cand q k s)) (k.l s))
        generalize lcpA (cand q k s) = f at *
        clear HF2 k0 k1 k2 k3 k4 hc0 u1 u2
        have hcase:(k.some s = true∧f = k.l s)∨(k.some s = false∨k.some s = true∧(f.toList == (k.l s).toList) = false)∧rankF (k.put s f) n (4096 * n + 4098) + 1≤rankF k n (4096 * n + 4098):=by
         rcases hsm:k.some s with _ | _
         ·exact .inr ⟨.inl rfl,HRk.out (by rw [hsm,if_neg (by decide)]; omega)⟩
         ·by_cases hfe:f = k.l s
          ·exact .inl ⟨rfl,hfe⟩
          ·refine .inr ⟨.inr ⟨rfl,?_⟩,HRk.out ?_⟩
           ·rcases e:(f.toList == (k.l s).toList) with _ | _
            ·rfl
            ·exact absurd (HQf.out.1 e) hfe
           ·rw [hsm,if_pos rfl]
            have h1:=HDn.out hsm
            have h2:=h1.length_le
            rw [bl_len,bl_len] at h2
            rcases Nat.lt_or_ge f.size (k.l s).size with h3 | h3
            ·exact h3
            ·exact absurd (bl_inj (h1.eq_of_length (by rw [bl_len,bl_len]; omega))) hfe
        rcases hcase with ⟨hsm,hfe⟩ | ⟨hcase,hrk⟩
        ·have hN:=Lib.hid (HSk.out hsm hfe)
         rw [hsm] at u3
         have hqq:(f.toList == (k.l s).toList) = true:=HQf.out.2 hfe
         clear hfe hsm
         go_wp2
         refine ⟨⟨k,_,_,HF2'.out,hN.out⟩,?_⟩
         have h1:=HM0.out
         rw [h1,HF2'.out.rank]
         show _ + xs.length < _
         omega
        ·have hcl:∀ t b,t < n→b < 256→q.nx t b = (s:Int)→(t:Int)∈rows s:=fun t b ht hb e => Hbk.out.full t b hb (by omega) s hsn e
         have HJ0:=Lib.hid (HT.out (rows s) hcl)
         have hsound:=Lib.hid (Hbk.out.sound s hsn)
         have hlen0:=Hbk.out.len s
         have HF5:=HF2'.out.tell s hsn f
         obtain ⟨Ab,cb,y1,y2,y3,y4⟩:=HRow.out.2 s hsn
         have henc:encs encI (rows s) = (rows s).map (Value.int .i64):=flatMap_one _ _
         rw [henc] at y4
         have y1:=(HF5.bel.cell (p:=⟨LBk,s,none⟩) HRow.out.1).trans y1
         have HR4:=Lib.hid (fun (W:World) (hb:Below W0.heap.size W0 W) => y4.below hb)
         clear hcl y4 henc
         have HF5':=Lib.hid HF5
         have x7:=((hgm (.string f)).cell s).trans (bV_at _ hsn)
         have x8:=(hgm (.string f)).frozen s
         have HSome:=Lib.hid (show (k.put s f).some s = true from by unfold Frt.put; simp)
         clear HF5 HT HSk HDn HRk HQf HF2'
         rcases hcase with hsm | ⟨hsm,hqq⟩
         all_goals
          rw [hsm] at u3 x7
          clear hsm hgm
          go_upto_region 27 with (fail)
          generalize (w2.setCell ⟨gL,s,none⟩ (.string f)).setCell ⟨gM,s,none⟩ (.bool true) = W5 at *
          clear u3 u4 x5 x6 x7 x8
          go_wp2
          clear y1
          generalize hLr:rows s = L at *
          go_loopw [12,141] (fun wv i wr => ∃ (j:Nat) (wts':Nat→Bool) (xs':List Nat) (vv:Value),vv = wv∧j≤L.length∧i = .int .i64 (j:Int)∧FroW W0 wr gL gM gW n (k.put s f) wts' xs' vv∧FroJ q n (k.put s f) wts' xs' (L.drop j)) (fun _ i _ => L.length - (intOf i).toNat)
          case atStart => exact ⟨0,_,_,_,rfl,Nat.zero_le _,rfl,HF5'.out,HJ0.out⟩
          case round =>
           obtain ⟨j,wts',xs',vv,rfl,hj',rfl,HF,HJ⟩:=hrel
           have hbz':=HF.bel.size
           have hnd':xs'.length≤n:=by
            have:=(HJ.nd).length_le_of_subset (fun z hz => List.mem_range.2 (HJ.lt z hz):xs' ⊆ List.range n)
            simpa using this
           by_cases hltj':j < L.length
           ·have hj1:(0:Int)≤(j:Int):=by omega
            have hj2:(j:Int) < (L.length:Int):=by omega
            have hlenm:L.length≤maxLen:=by unfold maxLen; omega
            obtain ⟨gb,ob,rfl,hgb,r1⟩:=cell_at (d:=0) (HR4.out _ HF.bel) j hltj'
            obtain ⟨t,ht,htn,c,hc,hx⟩:=hsound.out _ (getD_mem0 hltj')
            have hdr:=drop_getD (d:=0) hltj'
            rw [ht] at r1 hdr
            rw [hdr] at HJ
            have ht1:(0:Int)≤(t:Int):=by omega
            have ht2:(t:Int) < (n:Int):=by omega
            have hcn:=cand_ne (k:=k.put s f) hc hx HSome.out
            have v1:=(HF.w.cell t).trans (bV_at _ htn)
            have v2:=HF.w.frozen t
            clear ht hdr
            rcases hwt:wts' t with _ | _
            ·rw [hwt] at v1
             have HJ':=Lib.hid (HJ.push htn hwt hcn)
             have hxa:=(Blk.new wr 3 #[.int .i64 (t:Int)]).cell 0
             have HFa:=HF.call ((Below.refl wr.heap.size wr).alloc (Nat.le_refl _) (.cells #[.int .i64 (t:Int)] 3))
             have hqa:=HFa.que
             have hbsa:=HFa.bel.size
             obtain ⟨i1,t0,t1,t2,t3⟩:=info_parts int_infoS
             have h63:(qV xs').length + 1≤maxLen:=by rw [qV_len]; unfold maxLen; omega
             have hby:((qV xs').length + 1) * 8≤140737488355328:=by rw [qV_len]; omega
             clear HF HJ hwt
             go_wp2_with (at_builtin; refine wpList_append_q _ rfl _ _ 55 rfl W0.heap.size 3 i1 _ 8 Tryz.underlying55 t0 t1 t2 t3 rfl _ _ rfl hqa wr.heap.size (.int .i64 (t:Int)) rfl hxa rfl h63 hby hbsa ?_; intro v' w5 hown hgrow hloc; have HP:=HFa.push hown hgrow; have u3:=(HP.w.cell t).trans (bV_at _ htn); have u4:=HP.w.frozen t)
             go_roundw
             case rel => exact ⟨j + 1,_,_,_,rfl,by omega,by go_num,HP.wait t htn true,HJ'.out⟩
             case measure => simp [intOf]; omega
            ·rw [hwt] at v1
             have HJ':=Lib.hid (HJ.pass htn hwt)
             clear HJ hwt
             go_wp2
             go_roundw
             case rel => exact ⟨j + 1,_,_,_,rfl,by omega,by go_num,HF,HJ'.out⟩
             case measure => simp [intOf]; omega
           ·obtain rfl:L.length = j:=by omega
            rw [List.drop_length] at HJ
            have HFe:=Lib.hid (And.intro HF HJ.done)
            have hms:rankW wr gL gM n (4096 * n + 4098) * (n + 1) + lenOfV vv < rankF k n (4096 * n + 4098) * (n + 1) + (xs.length + 1):=by
             rw [HF.rank]
             obtain ⟨ga,oa,ca,hva,_⟩:=HF.que.form
             rw [hva,qV_len]
             show _ + xs'.length < _
             have h1:=Nat.mul_le_mul_right (n + 1) hrk
             rw [Nat.succ_mul] at h1
             omega
            have HMs:=Lib.hid hms
            clear HF HJ hms
            go_wp2
            exact ⟨⟨_,_,_,HFe.out.1,HFe.out.2⟩,by rw [HM0.out]; exact HMs.out⟩
end Go.Proofs.YtcondkihpmmnnaaGreatDoor
