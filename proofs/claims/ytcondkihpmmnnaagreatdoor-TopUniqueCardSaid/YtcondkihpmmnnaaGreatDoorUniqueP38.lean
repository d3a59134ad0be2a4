/- Lemmas, part 38 of 39. No condition. -/
import Derived.Test.YtcondkihpmmnnaaGreatDoorUniqueP37
import Derived.Test.YtcondkihpmmnnaaGreatDoorUniqueP07
namespace Go.Proofs.YtcondkihpmmnnaaGreatDoor
section
variable {a b c x y l r:Fs} (ra:Right a) (rb:Right b) (rc:Right c) (rx:Right x) (ry:Right y) (hx:Chain a b x) (hy:Chain b c y) (hl:Chain x c l) (hr:Chain a y r)
include ra rb rc rx ry hx hy hl hr
theorem unique_rel (w o:List UInt8):Rel l w o↔Rel r w o:=by
 rw [rel_of_chain rx rc hl,rel_of_chain ra ry hr]
 constructor
 ·rintro ⟨m,h1,h2⟩
  obtain ⟨k,h3,h4⟩:=(rel_of_chain ra rb hx _ _).1 h1
  exact ⟨k,h3,(rel_of_chain rb rc hy _ _).2 ⟨m,h4,h2⟩⟩
 ·rintro ⟨k,h1,h2⟩
  obtain ⟨m,h3,h4⟩:=(rel_of_chain rb rc hy _ _).1 h2
  exact ⟨m,(rel_of_chain ra rb hx _ _).2 ⟨k,h1,h3⟩,h4⟩
end
theorem unique_run {l r u v:Fs} {f g:Int→Int} {m:Nat} {p q:SeqM} (rl:Right l) (rr:Right r) (h:∀ w o,Rel l w o↔Rel r w o) (hu:Trims l u f) (hv:Trims r v g) (hp:allF u m = .ok p) (hq:allF v m = .ok q) (w:List UInt8):p.run w = q.run w:=by
 have key:∀ o,p.run w = some o↔q.run w = some o:=fun o => by
  rw [allF_run (hu.right rl) hp,allF_run (hv.right rr) hq,hu.rel rl,hv.rel rr,h]
 rcases hp1:p.run w with _ | o
 ·rcases hq1:q.run w with _ | o
  ·rfl
  ·have:=(key o).2 hq1
   rw [hp1] at this; cases this
 ·rw [(key o).1 hp1]
theorem unique_min {p q m n:SeqM} (h:∀ w,p.run w = q.run w) (hm:(m = seq0∧∀ x,p.run x = none)∨(Canon m∧ckB m = true∧∀ x,m.run x = p.run x)) (hn:(n = seq0∧∀ x,q.run x = none)∨(Canon n∧ckB n = true∧∀ x,n.run x = q.run x)):m = n:=by
 have live:∀ {m:SeqM},Canon m→∃ w o,m.run w = some o:=fun {m} hc => by
  obtain ⟨o,w,ho⟩:=hc.tight.live 0 hc.pos
  refine ⟨w,bl m.front ++ o,?_⟩
  unfold SeqM.run
  rw [if_neg (by have:=hc.pos; omega),ho]; rfl
 rcases hm with ⟨rfl,h1⟩ | ⟨h1,_,h2⟩ <;> rcases hn with ⟨rfl,h3⟩ | ⟨h3,_,h4⟩
 ·rfl
 ·obtain ⟨w,o,ho⟩:=live h3
  rw [h4,← h,h1] at ho; cases ho
 ·obtain ⟨w,o,ho⟩:=live h1
  rw [h2,h,h3] at ho; cases ho
 ·exact canon_one h1 h3 fun w => by rw [h2,h,h4]
end Go.Proofs.YtcondkihpmmnnaaGreatDoor
