/- Plain: the terms of a list of coefficients. -/
import Derived.Test.YtcnilhcplgiidaaDoorZe
set_option linter.unusedSimpArgs false
set_option linter.unusedVariables false
namespace Go.Proofs.YtcnilhcplgiidaaDoor
set_option linter.unusedVariables false
namespace Sp
def tmsF:Int->List Int->List (Int×Int)
 |_,[]=>[]
 |i,a::q=>if a=0 then tmsF (i+1) q else (i,a)::tmsF (i+1) q
theorem tmsF_mem: ∀(q:List Int) (i:Int),∀t∈tmsF i q,i<=t.1/\t.1<i+q.length/\t.2∈q/\t.2≠0
 |[],i,t,h=>by simp [tmsF] at h
 |a::q,i,t,h=>by
  unfold tmsF at h
  split at h
  ·have:=tmsF_mem q (i+1) t h
   simp only [List.length_cons,List.mem_cons]
   exact ⟨by omega,by omega, .inr this.2.2.1,this.2.2.2⟩
  ·rename_i ha
   rcases List.mem_cons.1 h with rfl|h
   ·simp only [List.length_cons];exact ⟨by omega,by omega,List.mem_cons_self,ha⟩
   ·have:=tmsF_mem q (i+1) t h
    simp only [List.length_cons,List.mem_cons]
    exact ⟨by omega,by omega, .inr this.2.2.1,this.2.2.2⟩
theorem tmsF_len: ∀(q:List Int) (i:Int),(tmsF i q).length<=q.length
 |[],_=>Nat.le_refl _
 |a::q,i=>by unfold tmsF;have:=tmsF_len q (i+1);split<;>simp<;>omega
end Sp
end Go.Proofs.YtcnilhcplgiidaaDoor
