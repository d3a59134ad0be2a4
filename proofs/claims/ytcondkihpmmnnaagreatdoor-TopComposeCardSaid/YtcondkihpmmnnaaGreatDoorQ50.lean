/- TopCompose returns true for any two machines, any number and any text, and the input reads as it did. Conditions: the row's own (three laid tables; the card ties them). -/
import Derived.Test.YtcondkihpmmnnaaGreatDoorQ49
import Derived.Test.YtcondkihpmmnnaaGreatDoorQ32
import Derived.Test.YtcondkihpmmnnaaGreatDoorQ09
namespace Go.Proofs.YtcondkihpmmnnaaGreatDoor.TopCompose
open Go.ChangeShapes Go.WideShapes Go.ChangeAt Go.RowKit
open Go.ChangeMaps (open_string shut_string)
set_option maxRecDepth 100000 in
theorem lifted (os:Os) (started:os.Started) (H:Type) (enc:TypeId × Value→H) :
    ReturnsInHanded {} Tryz.checked os 3 .any (fun w args => (Rows.topComposeSpec.pre enc Tryz.prog Tryz.f3 [] false w args∧laidMetH Tryz.prog laidL w)∧sizedMet enc Tryz.prog Tryz.f3 (OpenSpec.ofChange Rows.topComposeSpec) false w args) (Rows.topComposeSpec.post enc Tryz.prog Tryz.f3 false true false false):=by
 refine law_lifted_laid (tb:=4) started (by kernel_rfl) Tryz.func3 rfl ?_ rfl Tryz.underlying4 (by kernel_rfl)
  (ChangeSpec.witness_shaped (enc:=enc) (C:=Tryz.checked) (os:=os) (X:=fun w _ => laidMetH Tryz.prog laidL w) false (World.doorLaid Tryz.prog 14 os) #[.agg #[.string ByteArray.empty,.slice none 0 0,.slice none 0 0,.slice none 0 0,.slice none 0 0],.agg #[.string ByteArray.empty,.slice none 0 0,.slice none 0 0,.slice none 0 0,.slice none 0 0],.int .i64 0,.string ByteArray.empty] 8 rfl (World.shaped_of_RefB (by kernel_rfl) (by kernel_rfl)) (by kernel_rfl) (by kernel_rfl) (by kernel_rfl) (door_met os _)) ?_
 ·intro ds hl
  match ds,hl with
  | [_,_,_,_],_ => rfl
 intro W base args ds before hval0 hA0 hlt hsz0 hTab
 have hval:∀ (j:Nat) t v,Tryz.f3.params[j]? = some t→args[j]? = some v→Value.okWide Tryz.prog W .any base t v:=hval0
 have hA:DataW.TrodAll enc Tryz.prog W 0 (fun _ => true) true Tryz.f3.params.toList args.toList ds before:=hA0
 have hsz:(DataW.weightsEach Tryz.prog Tryz.f3.params.toList ds).all (·≤reachBytes) = true:=hsz0
 rw [Tryz.params3] at hA hval hsz
 obtain ⟨v0,vs0,d0,ds0,p0,q0,hargs,rfl,rfl,h0,r0⟩:=trodAll_cons hA
 obtain ⟨v1,vs1,d1,ds1,p1,q1,rfl,rfl,rfl,h1,r1⟩:=trodAll_cons r0
 obtain ⟨v2,vs2,d2,ds2,p2,q2,rfl,rfl,rfl,h2,r2⟩:=trodAll_cons r1
 obtain ⟨v3,vs3,d3,ds3,p3,q3,rfl,rfl,rfl,h3,r3⟩:=trodAll_cons r2
 obtain ⟨rfl,rfl,rfl⟩:=trodAll_nil r3
 obtain rfl:args = #[v0,v1,v2,v3]:=by cases args; simp_all
 obtain ⟨M0,R0⟩:=open_seq (hval 0 27 v0 rfl rfl) h0 (fun x hx => hlt x (by simp [hx]))
 obtain ⟨M1,R1⟩:=open_seq (hval 1 27 v1 rfl rfl) h1 (fun x hx => hlt x (by simp [hx]))
 obtain ⟨a2,rfl,rfl,rfl,w2⟩:=open_int Tryz.underlying3 (hval 2 3 v2 rfl rfl) h2
 obtain ⟨a3,rfl,rfl,rfl,w3⟩:=open_string Tryz.underlying9 (hval 3 9 v3 rfl rfl) h3
 have z3:=sized_string hsz (j:=3) rfl rfl
 rw [← Lib.size_eq] at z3
 simp only [reachBytes] at z3
 exact top_walk M0 M1 v0 v1 a2 a3 W R0 R1 (bounds_i64 w2) hTab
theorem proved:Rows.TopComposeSaid :=
 OpenClaim.holds_of_wide 3 Tryz.f3 rfl rfl rfl rfl rfl rfl rfl ⟨rfl,rfl,rfl,rfl,rfl⟩ rfl rfl rfl rfl rfl (by kernel_rfl) Tryz.func3 (by kernel_rfl)
  (of_decide_eq_true (by kernel_rfl)) (by unfold Func.isWrapper; first | (rw [if_pos (by decide +kernel)]; kernel_rfl) | (rw [if_neg (by decide +kernel)]; exact ⟨rfl,rfl⟩))
  (fun os started H enc _ => lifted os started H enc)
theorem card_holds:Rows.TopComposeCardSaid :=
 Claim7.holds_tied_plain_at .later [] [.data,.data,.data] true (true,"4ff8601192a1eb7c5d33e08d581ce744d95b93651d2c8e99f0954c8a855d605d") true
  proved (fun _ h => by cases h) (by kernel_rfl) (fun _ h => by cases h) topCompose_row_tie rfl ⟨rfl,rfl⟩ (by kernel_rfl) rfl
  (fun f fn hf hfn => by
   obtain rfl:f = 3:=Option.some.inj ((show Tryz.prog.funcNamed "whittle/whittletop.TopCompose" = some 3 by kernel_rfl).symm.trans hf) |>.symm
   obtain rfl:fn = Tryz.f3:=(Option.some.inj (Tryz.func3.symm.trans hfn)).symm
   exact ⟨by kernel_rfl,fun j t ht => by
    rw [Tryz.params3] at ht
    have hm:t∈[27,27,3,9]:=by simpa using Array.mem_of_getElem? ht
    have hall:([27,27,3,9].all fun u => !Tryz.prog.wantsStandIn u) = true:=by kernel_rfl
    exact (show Tryz.prog.wantsStandIn t = false by simpa using List.all_eq_true.1 hall t hm)⟩)
  (by kernel_rfl)
#print axioms card_holds
end Go.Proofs.YtcondkihpmmnnaaGreatDoor.TopCompose
