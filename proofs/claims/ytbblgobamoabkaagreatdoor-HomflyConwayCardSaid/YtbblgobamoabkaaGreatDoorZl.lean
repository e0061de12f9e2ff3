/- Dropped. -/
import Derived.Test.YtbblgobamoabkaaGreatDoorSq
import Derived.Test.YtbblgobamoabkaaGreatDoorZk
import Derived.Test.YtbblgobamoabkaaGreatDoorZf
import Derived.Test.YtbblgobamoabkaaGreatDoorZc
namespace Go.Proofs.YtbblgobamoabkaaGreatDoor
set_option linter.unusedSimpArgs false
set_option linter.unusedVariables false
structure PmOk (m:List Int) (n:Nat):Prop where
 ok:yci m n
 inv: ∀x:Nat,x<4*n->m.getD (m.getD x 0).toNat 0=x
 ne: ∀x:Nat,x<4*n->m.getD x 0≠x
section
variable {m:List Int} {n:Nat} (hp:PmOk m n)
include hp
end
section
variable {m:List Int} {n L:Nat} (hp:PmOk m n)
include hp
end
end Go.Proofs.YtbblgobamoabkaaGreatDoor
namespace Go.Proofs.YtbblgobamoabkaaGreatDoor
set_option linter.unusedSimpArgs false
set_option linter.unusedVariables false
end Go.Proofs.YtbblgobamoabkaaGreatDoor
set_option linter.unusedSimpArgs false
set_option linter.unusedVariables false
namespace Go.Proofs.YtbblgobamoabkaaGreatDoor
set_option linter.unusedVariables false
namespace Sp
def tmsF:Int->List Int->List (Int×Int)
 |_,[]=>[]
 |i,a::q=>if a=0 then tmsF (i+1) q else (i,a)::tmsF (i+1) q
theorem tmsF_mem: ∀(q:List Int) (i:Int),∀t∈tmsF i q,i<=t.1/\t.1<i+q.length/\t.2∈q/\t.2≠0
 |[],i,t,h=>by simp [tmsF] at h
 |a::q,i,t,h=>by
  unfold tmsF at h
  split at h
  ·have:=tmsF_mem q (i+1) t h
   simp only [List.length_cons,List.mem_cons]
   exact ⟨by omega,by omega, .inr this.2.2.1,this.2.2.2⟩
  ·rename_i ha
   rcases List.mem_cons.1 h with rfl|h
   ·simp only [List.length_cons];exact ⟨by omega,by omega,List.mem_cons_self,ha⟩
   ·have:=tmsF_mem q (i+1) t h
    simp only [List.length_cons,List.mem_cons]
    exact ⟨by omega,by omega, .inr this.2.2.1,this.2.2.2⟩
theorem yqf: ∀(q:List Int) (i:Int),(tmsF i q).length<=q.length
 |[],_=>Nat.le_refl _
 |a::q,i=>by unfold tmsF;have:=yqf q (i+1);split<;>simp<;>omega
end Sp
end Go.Proofs.YtbblgobamoabkaaGreatDoor
