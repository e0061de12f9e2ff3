/- Short names for some lemmas of the library. -/
namespace Go.Proofs.YtjpbeacamoijhaaGreatDoor
theorem zzA (n:Nat):n<=n:=Nat.le_refl n
theorem zzB {a:Type} {l:List a} {i:Nat} {d:a}:l.getD i d=l[i]?.getD d:=List.getD_eq_getElem?_getD
theorem zzC (n:Nat):(n:Int).toNat=n:=Int.toNat_natCast n
theorem zzD {a:Type} {x:a} {l:List a}:x∈x::l:=List.mem_cons_self
theorem zzE {a:Type} (y:a) {x:a} {l:List a} (h:x∈l):x∈y::l:=List.mem_cons_of_mem y h
theorem zzF {a:Type} {x y:List a}:(x++y).length=x.length+y.length:=List.length_append
theorem zzG {a:Type} {x:a} {y:List a}:(x::y).length=y.length+1:=List.length_cons
theorem zzH {a:Type} {l:List a} {i:Nat} (h:i<l.length):l[i]?=some l[i]:=List.getElem?_eq_getElem h
theorem zzI.{u} {c:Prop} {h:Decidable c} (k:¬c) {a:Sort u} {t e:a}:ite c t e=e:=if_neg k
theorem zzJ.{u} {c:Prop} {h:Decidable c} (k:c) {a:Sort u} {t e:a}:ite c t e=t:=if_pos k
theorem zzK {p:Prop} (h:¬p):p=False:=eq_false h
theorem zzL {a b:Prop} (x:a) (y:b):a∧b:=⟨x,y⟩
theorem zzM {a:Type} {x y:a}:x∈[y]<->x=y:=List.mem_singleton
theorem zzN {a:Type} {l:List a} {i:Nat} {x:a} (h:l[i]?=some x):x∈l:=List.mem_of_getElem? h
theorem zzO {a b:Type} {f:a→b} {l:List a} {i:Nat}:(l.map f)[i]?=l[i]?.map f:=List.getElem?_map
theorem zzP {a:Type} {l:List a} {i:Nat} (h:l.length≤i):l[i]?=none:=List.getElem?_eq_none h
theorem zzQ {a:Type} {l:List a} (h:l.length=0):l=[]:=List.eq_nil_of_length_eq_zero h
theorem zzR {a:Type} {l:List a} {i:Nat} (h:l.length≤i):l.take i=l:=List.take_of_length_le h
theorem zzS (a b:Bool):((a&&b)=true)=(a=true∧b=true):=Bool.and_eq_true a b
theorem zzT {p:Prop} (h:¬p→False):p:=Classical.byContradiction h
theorem zzU {a:Type} [BEq a] [LawfulBEq a] {x y:a}:(x==y)=false<->x≠y:=beq_eq_false_iff_ne
theorem zzV (a b:Nat):a<b∨b≤a:=Nat.lt_or_ge a b
end Go.Proofs.YtjpbeacamoijhaaGreatDoor
