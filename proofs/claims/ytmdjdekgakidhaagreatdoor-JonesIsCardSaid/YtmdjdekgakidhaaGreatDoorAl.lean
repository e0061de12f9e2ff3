/- Short names for some lemmas of the library. -/
namespace Go.Proofs.YtmdjdekgakidhaaGreatDoor
theorem zzA (n:Nat):n<=n:=Nat.le_refl n
theorem zzB {a:Type} {l:List a} {i:Nat} {d:a}:l.getD i d=l[i]?.getD d:=List.getD_eq_getElem?_getD
theorem zzC (n:Nat):(n:Int).toNat=n:=Int.toNat_natCast n
theorem zzD {a:Type} {x:a} {l:List a}:x∈x::l:=List.mem_cons_self
theorem zzE {a:Type} (y:a) {x:a} {l:List a} (h:x∈l):x∈y::l:=List.mem_cons_of_mem y h
theorem zzF {a:Type} {x y:List a}:(x++y).length=x.length+y.length:=List.length_append
theorem zzG {a:Type} {x:a} {y:List a}:(x::y).length=y.length+1:=List.length_cons
theorem zzH {a:Type} {x:a}:¬x∈[]:=List.not_mem_nil
theorem zzI {a:Type} {l:List a} {i:Nat} (h:i<l.length):l[i]?=some l[i]:=List.getElem?_eq_getElem h
theorem zzJ {n:Nat}:(List.range n).length=n:=List.length_range
theorem zzK {m n:Nat}:m∈List.range n<->m<n:=List.mem_range
theorem zzL {a:Type} {l:List a} {i:Nat} {x:a}:(l.set i x).length=l.length:=List.length_set
end Go.Proofs.YtmdjdekgakidhaaGreatDoor
