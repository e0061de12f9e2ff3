/- Short names for some lemmas of the library. -/
namespace Go.Proofs.YthohfoombimbeaaGreatDoor
theorem zA(n:Nat):n<=n:=Nat.le_refl n
theorem zB{a:Type}{l:List a}{i:Nat}{d:a}:l.getD i d=l[i]?.getD d:=List.getD_eq_getElem?_getD
theorem zD(n:Nat):(n:Int).toNat=n:=Int.toNat_natCast n
theorem zE{a:Type}{x:a}{l:List a}:x∈x::l:=List.mem_cons_self
theorem zF{a:Type}(y:a){x:a}{l:List a}(h:x∈l):x∈y::l:=List.mem_cons_of_mem y h
theorem zG{a:Type}{x y:List a}:(x++y).length=x.length+y.length:=List.length_append
theorem zH{a:Type}{x:a}{y:List a}:(x::y).length=y.length+1:=List.length_cons
theorem zI{a:Type}{x:a}:¬x∈[]:=List.not_mem_nil
theorem zJ{a:Type}{l:List a}{i:Nat}(h:i<l.length):l[i]?=some l[i]:=List.getElem?_eq_getElem h
theorem zK{m n:Nat}:m∈List.range n<->m<n:=List.mem_range
theorem zL.{u}{c:Prop}{h:Decidable c}(k:¬c){α:Sort u}{t e:α}:ite c t e=e:=if_neg k
theorem zM.{u}{c:Prop}{h:Decidable c}(k:c){α:Sort u}{t e:α}:ite c t e=t:=if_pos k
theorem zN{p:Prop}(h:¬p):p=False:=eq_false h
theorem zO{a b:Prop}(x:a)(y:b):a∧b:=⟨x,y⟩
theorem zP{a:Type}{x y:a}:x∈[y]<->x=y:=List.mem_singleton
theorem zQ{a:Type}{l:List a}{i:Nat}{x:a}(h:l[i]?=some x):x∈l:=List.mem_of_getElem? h
theorem zR{a b:Type}{f:a→b}{l:List a}{i:Nat}:(l.map f)[i]?=l[i]?.map f:=List.getElem?_map
theorem zS{a:Type}{l:List a}{i:Nat}(h:l.length≤i):l[i]?=none:=List.getElem?_eq_none h
theorem zT{a:Type}{l:List a}(h:l.length=0):l=[]:=List.eq_nil_of_length_eq_zero h
theorem zU{a:Type}{l:List a}{i:Nat}(h:l.length≤i):l.take i=l:=List.take_of_length_le h
theorem zV(a b:Bool):((a&&b)=true)=(a=true∧b=true):=Bool.and_eq_true a b
theorem zW{p:Prop}(h:¬p→False):p:=Classical.byContradiction h
theorem zX{a:Type}[BEq a][LawfulBEq a]{x y:a}:(x==y)=false<->x≠y:=beq_eq_false_iff_ne
theorem zY(a b:Nat):a<b∨b≤a:=Nat.lt_or_ge a b
theorem zZ{a:Type}{p:a→Bool}{l:List a}:l.all p=true<->∀x,x∈l→p x=true:=List.all_eq_true
theorem zzA{a b:Prop}(h:a)(k:¬a):b:=absurd h k
theorem zzB{a b:Type}{f:a→b}{o:Option a}{y:b}:o.map f=some y<->∃x,o=some x∧f x=y:=Option.map_eq_some_iff
theorem zzC{a:Type}:([]:List a).length=0:=List.length_nil
theorem zzD{a:Type}{x y:a}{l:List a}:x∈y::l<->x=y∨x∈l:=List.mem_cons
theorem zzE{a b:Type}{f:a→b}{l:List a}{y:b}:y∈l.map f<->∃x,x∈l∧f x=y:=List.mem_map
theorem zzF{a:Type}{l:List a}{i:Nat}{x:a}:(l.set i x).length=l.length:=List.length_set
end Go.Proofs.YthohfoombimbeaaGreatDoor
