/- Layers 6 and 14: ReverseOne, and the linking numbers. -/
import Derived.Test.YtcnilhcplgiidaaDoorZq
import Derived.Test.YtcnilhcplgiidaaDoorZo
import Derived.Test.YtcnilhcplgiidaaDoorZc
import Derived.Test.YtcnilhcplgiidaaDoorGb
namespace Go.Proofs.YtcnilhcplgiidaaDoor
open Go Go.RowKit
set_option maxRecDepth 100000
set_option maxHeartbeats 8000000
set_option linter.unusedVariables false
set_option linter.unusedSimpArgs false
def ykj:Tr:= .node [(0, .node [(1, .node [(2, .node [(3, .node [(4, .node [(5, .node [(6, .node [(7, .done)])])])])]),(3, .node [(2, .node [(4, .node [(5, .node [(6, .node [(7, .done)])])])])])]),(3, .node [(1, .node [(2, .node [(4, .node [(5, .node [(6, .node [(7, .done)])])])])])])]),(1, .node [(0, .node [(2, .node [(3, .node [(4, .node [(5, .node [(6, .node [(7, .done)])])])])]),(3, .node [(2, .node [(4, .node [(5, .node [(6, .node [(7, .done)])])])])])]),(2, .node [(0, .node [(3, .node [(4, .node [(5, .node [(6, .node [(7, .done)])])])])]),(3, .node [(0, .node [(4, .node [(5, .node [(6, .node [(7, .done)])])])]),(4, .node [(0, .node [(5, .node [(6, .node [(7, .done)])])]),(5, .node [(0, .node [(6, .node [(7, .done)])])])])])]),(3, .node [(0, .node [(2, .node [(4, .node [(5, .node [(6, .node [(7, .done)])])])])]),(2, .node [(0, .node [(4, .node [(5, .node [(6, .node [(7, .done)])])])]),(4, .node [(0, .node [(5, .node [(6, .node [(7, .done)])])]),(5, .node [(0, .node [(6, .node [(7, .done)])])])])])])]),(3, .node [(0, .node [(1, .node [(2, .node [(4, .node [(5, .node [(6, .node [(7, .done)])])])])])]),(1, .node [(0, .node [(2, .node [(4, .node [(5, .node [(6, .node [(7, .done)])])])])]),(2, .node [(0, .node [(4, .node [(5, .node [(6, .node [(7, .done)])])])]),(4, .node [(0, .node [(5, .node [(6, .node [(7, .done)])])]),(5, .node [(0, .node [(6, .node [(7, .done)])])])])])])])]
def gA (g:Int->Option (Int×Int)) (c:Int):Int×Int:=(g c).getD (0,0)
theorem y1o (k h:Int) (g:Int->Option (Int×Int)) (c:Int):gA (at1 k h g) c=if h/4=c then (if h % 2=0 then (k,(gA g c).2) else ((gA g c).1,k)) else gA g c:=by
 unfold at1 gA updP
 by_cases h1:h/4=c
 ·subst h1
  by_cases h2:h % 2=0
  ·rw [if_pos h2,if_pos rfl,if_pos h2];simp
  ·rw [if_neg h2,if_pos rfl,if_neg h2];simp
 ·have h3: ¬c=h/4:=fun e=>h1 e.symm
  rw [if_neg h1]
  by_cases h2:h % 2=0
  ·rw [if_pos h2,if_neg h3]
  ·rw [if_neg h2,if_neg h3]
theorem yw1 (k:Int) (l:List Int) (g:Int->Option (Int×Int)) (c:Int): ∀j,j<=l.length->
  ((∀i,i<j-> ¬(l.getD i 0/4=c/\l.getD i 0 % 2=0))->(gA (atN k l g j) c).1=(gA g c).1)/\((∃i,i<j/\l.getD i 0/4=c/\l.getD i 0 % 2=0)->(gA (atN k l g j) c).1=k)/\
  ((∀i,i<j-> ¬(l.getD i 0/4=c/\ ¬l.getD i 0 % 2=0))->(gA (atN k l g j) c).2=(gA g c).2)/\((∃i,i<j/\l.getD i 0/4=c/\ ¬l.getD i 0 % 2=0)->(gA (atN k l g j) c).2=k)
 |0,_=>⟨fun _=>rfl,fun ⟨i,h,_⟩=>by omega,fun _=>rfl,fun ⟨i,h,_⟩=>by omega⟩
 |j+1,hj=>by
  obtain ⟨a1,a2,a3,a4⟩:=yw1 k l g c j (by omega)
  simp only [atN]
  rw [y1o]
  obtain ⟨x,hx⟩: ∃x,l.getD j 0=x:=⟨_,rfl⟩
  rw [hx]
  by_cases h1:x/4=c
  ·rw [if_pos h1]
   by_cases h2:x % 2=0
   ·rw [if_pos h2]
    refine ⟨fun h=>absurd (show l.getD j 0/4=c/\l.getD j 0 % 2=0 by rw [hx];exact ⟨h1,h2⟩) (h j (by omega)),fun _=>rfl,fun h=>a3 fun i hi=>h i (by omega),fun ⟨i,i1,i2,i3⟩=>a4 ?_⟩
    by_cases e:i=j
    ·subst e;rw [hx] at i3;exact absurd h2 i3
    ·exact ⟨i,by omega,i2,i3⟩
   ·rw [if_neg h2]
    refine ⟨fun h=>a1 fun i hi=>h i (by omega),fun ⟨i,i1,i2,i3⟩=>a2 ?_,fun h=>absurd (show l.getD j 0/4=c/\ ¬l.getD j 0 % 2=0 by rw [hx];exact ⟨h1,h2⟩) (h j (by omega)),fun _=>rfl⟩
    by_cases e:i=j
    ·subst e;rw [hx] at i3;exact absurd i3 h2
    ·exact ⟨i,by omega,i2,i3⟩
  ·rw [if_neg h1]
   refine ⟨fun h=>a1 fun i hi=>h i (by omega),fun ⟨i,i1,i2,i3⟩=>a2 ?_,fun h=>a3 fun i hi=>h i (by omega),fun ⟨i,i1,i2,i3⟩=>a4 ?_⟩
   ·by_cases e:i=j
    ·subst e;rw [hx] at i2;exact absurd i2 h1
    ·exact ⟨i,by omega,i2,i3⟩
   ·by_cases e:i=j
    ·subst e;rw [hx] at i2;exact absurd i2 h1
    ·exact ⟨i,by omega,i2,i3⟩
theorem ywn {s m:List Int} {L:Int} (hv:yaj s m L=true): ∃u o:Nat->Nat,AtK s m (yae s m).length u o/\ ∀c:Nat,c<s.length->gA (atL (yae s m) (yae s m).length) c=((u c:Int),(o c:Int)):=by
 have v:=yat hv
 have hu: ∀c,∃k,c<s.length->k<(yae s m).length/\((4*c+2:Nat):Int)∈strK s m k:=fun c=>by
  by_cases hc:c<s.length
  ·obtain ⟨k,h1,h2⟩:=ykg v (y:=4*c+2) (by omega) (yct s c).2.2.1
   exact ⟨k,fun _=>⟨h1,h2⟩⟩
  ·exact ⟨0,fun h=>absurd h hc⟩
 have ho: ∀c,∃k,c<s.length->k<(yae s m).length/\((ovH s c:Nat):Int)∈strK s m k:=fun c=>by
  by_cases hc:c<s.length
  ·obtain ⟨k,h1,h2⟩:=ykg v (y:=ovH s c) (by unfold ovH;split<;>omega) (by
    obtain ⟨a0,a1,a2,a3⟩:=yct s c
    unfold ovH
    rcases v.sg c hc with h|h
    ·rw [if_pos h,a1,h];rfl
    ·rw [if_neg (by omega),a3,h];rfl)
   exact ⟨k,fun _=>⟨h1,h2⟩⟩
  ·exact ⟨0,fun h=>absurd h hc⟩
 obtain ⟨u,hu⟩:=Classical.axiomOfChoice hu
 obtain ⟨o,ho⟩:=Classical.axiomOfChoice ho
 refine ⟨u,o,⟨fun c hc=>(hu c hc).1,fun c hc=>(ho c hc).1,fun c hc=>(hu c hc).2,fun c hc=>(ho c hc).2⟩,fun c hc=>?_⟩
 obtain ⟨u1,u2⟩:=hu c hc
 obtain ⟨o1,o2⟩:=ho c hc
 have mem: ∀k (x:Int),x∈strK s m k↔ ∃i,i<(strK s m k).length/\(strK s m k).getD i 0=x:=fun k x=>by
  generalize strK s m k=l
  rw [List.mem_iff_getElem]
  constructor
  ·rintro ⟨i,h,e⟩;exact ⟨i,h,by simp only [List.getD_eq_getElem?_getD,List.getElem?_eq_getElem h,Option.getD_some,e]⟩
  ·rintro ⟨i,h,e⟩;exact ⟨i,h,by simpa only [List.getD_eq_getElem?_getD,List.getElem?_eq_getElem h,Option.getD_some] using e⟩
 obtain ⟨a0,a1,a2,a3⟩:=yct s c
 have ev: ∀k,k<(yae s m).length-> ∀x,x∈strK s m k->x/4=(c:Int)->x % 2=0->x=((4*c+2:Nat):Int):=fun k hk x hx h1 h2=>by
  obtain ⟨r1,r2⟩:=yeb v hk hx
  unfold InR at r1
  rcases (show x=((4*c:Nat):Int)\/x=((4*c+2:Nat):Int) by omega) with h|h
  ·rw [h,a0] at r2;cases r2
  ·exact h
 have od: ∀k,k<(yae s m).length-> ∀x,x∈strK s m k->x/4=(c:Int)-> ¬x % 2=0->x=((ovH s c:Nat):Int):=fun k hk x hx h1 h2=>by
  obtain ⟨r1,r2⟩:=yeb v hk hx
  unfold InR at r1
  unfold ovH
  rcases (show x=((4*c+1:Nat):Int)\/x=((4*c+3:Nat):Int) by omega) with h|h
  ·rw [h,a1] at r2
   rw [h,if_pos (by simpa using r2)]
  ·rw [h,a3] at r2
   have:=eq_of_beq r2
   rw [h,if_neg (by omega)]
 have key: ∀K,K<=(yae s m).length->(u c<K->(gA (atL (yae s m) K) c).1=u c)/\(o c<K->(gA (atL (yae s m) K) c).2=o c):=fun K=>by
  induction K with
  |zero=>intro _;exact ⟨fun h=>by omega,fun h=>by omega⟩
  |succ K ih=>
   intro hK
   obtain ⟨i1,i2⟩:=ih (by omega)
   obtain ⟨b1,b2,b3,b4⟩:=yw1 K (strK s m K) (atL (yae s m) K) c (strK s m K).length (Nat.le_refl _)
   simp only [atL]
   refine ⟨fun h=>?_,fun h=>?_⟩
   ·by_cases e:u c=K
    ·rw [e] at u2⊢
     obtain ⟨i,h1,h2⟩:=(mem _ _).1 u2
     exact b2 ⟨i,h1,by rw [h2];omega,by rw [h2];omega⟩
    ·rw [←i1 (by omega)]
     refine b1 fun i hi ⟨h1,h2⟩=>e ?_
     have hm:=(mem K _).2 ⟨i,hi,rfl⟩
     have:=ev K (by omega) _ hm h1 h2
     rw [this] at hm
     exact yc9 v u1 (by omega) u2 hm
   ·by_cases e:o c=K
    ·rw [e] at o2⊢
     obtain ⟨i,h1,h2⟩:=(mem _ _).1 o2
     exact b4 ⟨i,h1,by rw [h2];unfold ovH;split<;>omega,by rw [h2];unfold ovH;split<;>omega⟩
    ·rw [←i2 (by omega)]
     refine b3 fun i hi ⟨h1,h2⟩=>e ?_
     have hm:=(mem K _).2 ⟨i,hi,rfl⟩
     have:=od K (by omega) _ hm h1 h2
     rw [this] at hm
     exact yc9 v o1 (by omega) o2 hm
 obtain ⟨k1,k2⟩:=key _ (Nat.le_refl _)
 exact Prod.ext (k1 u1) (k2 o1)
def kpN (a b i j:Int):Bool:=(a==i&&b==j)||(a==j&&b==i)
theorem yq8 (a b i j:Int):Fn Tryd.prog 39 [I a,I b, .rp (.lst [I i]) 0, .rp (.lst [I j]) 0] (.bool (kpN a b i j)):=by
 have e:kpN a b i j=((a==i&&b==j)||(a==j&&b==i)):=rfl
 cases b1:(a==i)<;>cases b2:(b==j)<;>cases b3:(a==j)<;>cases b4:(b==i)
 all_goals
  rw [b1,b2,b3,b4] at e
  simp only [Bool.and_true,Bool.true_and,Bool.and_false,Bool.false_and,Bool.or_true,Bool.true_or,Bool.or_false,Bool.false_or,Bool.and_self,Bool.or_self] at e
  rw [e]
  refine Fn.intro [.tmp 6] Tryd.func39 rfl rfl (by decide) (by simp [Tryd.ntmps39]) ?_;rw [Tryd.ntmps39]
  repeat' (first|omega|(try apply yaa);simp only [go_sem,sevalprocAttr,b1,b2,b3,b4]|apply yad<;>(intro h_;(try simp only [h_]);revert h_)|apply yac|apply yab|apply gspI|apply And.intro|with_reducible intro h_|trivial|simp only [go_sem,la2];omega)
def twG (s:List Int) (g:Int->Option (Int×Int)) (i j:Int):Nat->Int
 |0=>0
 |n+1=>twG s g i j n+if kpN (gA g n).1 (gA g n).2 i j=true then s.getD n 0 else 0
abbrev nuF (i j:Int):AV:= .fn 39 [.rp (.lst [I i]) 0, .rp (.lst [I j]) 0]
theorem yt3 (s m:List Int) (L:Int) (g:Int->Option (Int×Int)) (i j:Int) (t:Int) (c:Nat) (hc:c<s.length) (ht: -1000<=t/\t<=1000) (hs:s.getD c 0=1\/s.getD c 0= -1) {fr:Fr} {K:AV->Fr->Hp->Prop}
  (hK:K (.tup []) fr ((6, .cells 93 (.lst [I ((g c).getD (0,0)).1,I ((g c).getD (0,0)).2]))::smH s m L g (nuF i j) (t+if kpN (gA g c).1 (gA g c).2 i j=true then s.getD c 0 else 0))):
  yc2 Tryd.prog 69 [I c, .ptr 4 0, .ptr 1 0, .ptr 5 0, .ptr 0 0] fr (smH s m L g (nuF i j) t) K:=by
 have hW:=yq8 ((g c).getD (0,0)).1 ((g c).getD (0,0)).2 i j
 obtain ⟨x,hx⟩: ∃x,s.getD c 0=x:=⟨_,rfl⟩
 have hg:gA g c=(g c).getD (0,0):=rfl
 rw [hg] at hK
 rw [hx] at hs hK
 cases hk:kpN ((g c).getD (0,0)).1 ((g c).getD (0,0)).2 i j with
 |true=>
  rw [hk] at hW hK
  rw [if_pos rfl] at hK
  refine yc2.intro [] Tryd.func69 rfl rfl (by decide) (by simp [Tryd.ntmps69]) ?_;rw [Tryd.ntmps69]
  repeat' (first|omega|(try apply yaa);simp only [go_sem,sevalprocAttr]|apply yad<;>(intro h_;(try simp only [h_]);revert h_)|apply yac|apply yab|apply gspI|apply And.intro|with_reducible intro h_|trivial|simp only [go_sem,la2];omega)
  refine ⟨yag.fn rfl hW ?_⟩
  repeat' (first|omega|(first|apply yaa|(refine yaf.intro (id:=2) [[17,18,19,20,21],[16,19],[16,19],[16,17,18],[16],[16],[],[]] [[],[0],[0],[0,1,2],[0],[0],[],[]] (by decide+kernel) mixed ?_)|(refine yaf.introT (id:=2) (ykj) (by decide+kernel) mixed ?_)|skip);simp only [go_sem,sevalprocAttr,hx,↓reduceIte,reduceCtorEq,ykj]|apply yad<;>(intro h_;(try simp only [h_]);revert h_)|apply yac|apply yab|apply gspI|apply And.intro|with_reducible intro h_|trivial|simp only [go_sem,la2];omega)
  all_goals exact hK
 |false=>
  rw [hk] at hW hK
  rw [if_neg (by simp),Int.add_zero] at hK
  refine yc2.intro [] Tryd.func69 rfl rfl (by decide) (by simp [Tryd.ntmps69]) ?_;rw [Tryd.ntmps69]
  repeat' (first|omega|(try apply yaa);simp only [go_sem,sevalprocAttr]|apply yad<;>(intro h_;(try simp only [h_]);revert h_)|apply yac|apply yab|apply gspI|apply And.intro|with_reducible intro h_|trivial|simp only [go_sem,la2];omega)
  refine ⟨yag.fn rfl hW ?_⟩
  repeat' (first|omega|(first|apply yaa|(refine yaf.intro (id:=2) [[17,18,19,20,21],[16,19],[16,19],[16,17,18],[16],[16],[],[]] [[],[0],[0],[0,1,2],[0],[0],[],[]] (by decide+kernel) mixed ?_)|(refine yaf.introT (id:=2) (ykj) (by decide+kernel) mixed ?_)|skip);simp only [go_sem,sevalprocAttr,hx,↓reduceIte,reduceCtorEq,ykj]|apply yad<;>(intro h_;(try simp only [h_]);revert h_)|apply yac|apply yab|apply gspI|apply And.intro|with_reducible intro h_|trivial|simp only [go_sem,la2];omega)
  all_goals exact hK
theorem yt4 {s:List Int} (hs:ycf s s.length) {g:Int->Option (Int×Int)} {i j:Int}: ∀c,c<=s.length-> -(c:Int)<=twG s g i j c/\twG s g i j c<=c:=fun c=>by
 induction c with
 |zero=>intro _;simp [twG]
 |succ c ih=>
  intro hc
  have:=ih (by omega)
  have:=hs c (by omega)
  simp only [twG];split<;>omega
theorem yzi (s m:List Int) (L:Int) (i j:Int) (hv:yaj s m L=true):Fn Tryd.prog 38 [dgA s m L,nuF i j] (I (twG s (atL (yae s m) (yae s m).length) i j s.length)):=by
 have hA:=yl1 s m L hv
 have v1:=yat hv
 have h64:=v1.s64
 generalize atL (yae s m) (yae s m).length=g at*
 have hb:=fun c (hc:c<=s.length)=>yt4 (g:=g) (i:=i) (j:=j) v1.sg c hc
 refine Fn.intro [.tmp 4] Tryd.func38 rfl rfl (by decide) (by simp [Tryd.ntmps38]) ?_;rw [Tryd.ntmps38]
 repeat' (first|omega|(try apply yaa);simp only [go_sem,sevalprocAttr]|apply yad<;>(intro h_;(try simp only [h_]);revert h_)|apply yac|apply yab|apply gspI|apply And.intro|with_reducible intro h_|trivial|simp only [go_sem,la2];omega)
 refine ⟨yag.fno rfl hA ?_⟩
 repeat' (first|omega|(try apply yaa);simp only [go_sem,sevalprocAttr]|apply yad<;>(intro h_;(try simp only [h_]);revert h_)|apply yac|apply yab|apply gspI|apply And.intro|with_reducible intro h_|trivial|simp only [go_sem,la2];omega)
 refine ya0.intro (fun n fr H=> ∃c:Nat,c<=s.length/\n=s.length-c/\fr=[(15,I c),(14,I s.length),(7, .fn 69 [.ptr 4 0, .ptr 1 0, .ptr 5 0, .ptr 0 0]),(6, .ptr 5 0)]/\H=smH s m L g (nuF i j) (twG s g i j c)) ?_ ?_
 ·refine ⟨_,_,_,Wk.sub ?_ ?_,0,by omega,rfl,rfl,rfl⟩
  ·simp only [go_sem,sevalprocAttr]
  ·(simp only [go_sem,sevalprocAttr,twG])<;>rfl
 rintro n fr H ⟨c,hc,rfl,rfl,rfl⟩
 have hbc:=hb c hc
 by_cases hcl:c<s.length
 ·have bc:decide ((c:Int)<s.length)=true:=by simpa using hcl
  repeat' (first|omega|(try apply yaa);simp only [go_sem,sevalprocAttr,bc]|apply yad<;>(intro h_;(try simp only [h_]);revert h_)|apply yac|apply yab|apply gspI|apply And.intro|with_reducible intro h_|trivial|simp only [go_sem,la2];omega)
  refine ⟨yag.inline (yt3 s m L g i j (twG s g i j c) c hcl (by omega) (v1.sg c hcl) ?_)⟩
  repeat' (first|omega|(try apply yaa);simp only [go_sem,sevalprocAttr]|apply yad<;>(intro h_;(try simp only [h_]);revert h_)|apply yac|apply yab|apply gspI|apply And.intro|with_reducible intro h_|trivial|simp only [go_sem,la2];omega)
  refine ⟨_,_,_,?_,Wk.sub ?_ ?_,c+1,by omega,rfl,rfl,rfl⟩
  ·omega
  ·simp only [go_sem,sevalprocAttr]
  ·(simp only [go_sem,sevalprocAttr,twG])<;>rfl
 ·obtain rfl:c=s.length:=by omega
  have bc:decide (((s.length:Nat):Int)<s.length)=false:=by simp
  repeat' (first|omega|(try apply yaa);simp only [go_sem,sevalprocAttr,bc]|apply yad<;>(intro h_;(try simp only [h_]);revert h_)|apply yac|apply yab|apply gspI|apply And.intro|with_reducible intro h_|trivial|simp only [go_sem,la2];omega)
theorem yt5 (s m:List Int) (L:Int) (hv:yaj s m L=true) (i j:Nat) (hi:(i:Int)<(yae s m).length+L) (hj:(j:Int)<(yae s m).length+L) (hij:i≠j) (hev:twG s (atL (yae s m) (yae s m).length) i j s.length % 2=0):
  Fn Tryd.prog 15 [dgA s m L,I i,I j] (.tup [I (twG s (atL (yae s m) (yae s m).length) i j s.length/2),I 0]):=by
 have v1:=yat hv
 have h64:=v1.s64
 have hle:=yt4 (g:=atL (yae s m) (yae s m).length) (i:=i) (j:=j) v1.sg s.length (Nat.le_refl _)
 have hV:=yb6 s m L
 have hC:=yeu s m L
 rw [hv] at hV
 rw [hv,if_pos rfl] at hC
 have hS:=yzi s m L i j hv
 generalize twG s (atL (yae s m) (yae s m).length) i j s.length=t at*
 have ed:t.tdiv 2=t/2:=Int.tdiv_eq_ediv_of_dvd (by omega)
 obtain ⟨k,hk⟩: ∃k:Int,((yae s m).length:Int)+L=k:=⟨_,rfl⟩
 rw [hk] at hC hi hj
 have b1:decide ((i:Int)<0)=false:=by simp
 have b2:decide (k<=(i:Int))=false:=by rw [decide_eq_false_iff_not];omega
 have b3:decide ((j:Int)<0)=false:=by simp
 have b4:decide (k<=(j:Int))=false:=by rw [decide_eq_false_iff_not];omega
 have b5:((i:Int)==j)=false:=by rw [beq_eq_false_iff_ne];omega
 refine Fn.intro [.tmp 6, .tmp 7] Tryd.func15 rfl rfl (by decide) (by simp [Tryd.ntmps15]) ?_;rw [Tryd.ntmps15]
 repeat' (first|omega|(try apply yaa);simp only [go_sem,sevalprocAttr]|apply yad<;>(intro h_;(try simp only [h_]);revert h_)|apply yac|apply yab|apply gspI|apply And.intro|with_reducible intro h_|trivial|simp only [go_sem,la2];omega)
 refine ⟨yag.fn rfl hV ?_⟩
 repeat' (first|omega|(try apply yaa);simp only [go_sem,sevalprocAttr]|apply yad<;>(intro h_;(try simp only [h_]);revert h_)|apply yac|apply yab|apply gspI|apply And.intro|with_reducible intro h_|trivial|simp only [go_sem,la2];omega)
 refine ⟨yag.fn rfl hC ?_⟩
 repeat' (first|omega|(try apply yaa);simp only [go_sem,sevalprocAttr,b1,b2,b3,b4,b5]|apply yad<;>(intro h_;(try simp only [h_]);revert h_)|apply yac|apply yab|apply gspI|apply And.intro|with_reducible intro h_|trivial|simp only [go_sem,la2];omega)
 refine ⟨yag.frz [1,2] rfl (by simp only [go_sem,sevalprocAttr]) (by simp only [go_sem,sevalprocAttr]) (by simp only [go_sem,sevalprocAttr]) (by simp only [go_sem,sevalprocAttr]) rfl rfl rfl (yag.fn rfl hS ?_)⟩
 repeat' (first|omega|(try apply yaa);simp only [go_sem,sevalprocAttr,ed]|apply yad<;>(intro h_;(try simp only [h_]);revert h_)|apply yac|apply yab|apply gspI|apply And.intro|with_reducible intro h_|trivial|simp only [go_sem,la2];omega)
theorem yt6 {s m:List Int} {u o:Nat->Nat} (hg: ∀c:Nat,c<s.length->gA (atL (yae s m) (yae s m).length) c=((u c:Int),(o c:Int))) (i j:Nat): ∀n,n<=s.length->twG s (atL (yae s m) (yae s m).length) i j n=twK s u o i j n
 |0,_=>rfl
 |n+1,hn=>by
  have ih:=yt6 hg i j n (by omega)
  simp only [twG]
  rw [ih,hg n (by omega)]
  unfold twK
  simp only [sm]
  congr 1
  have e:kpN (u n:Int) (o n:Int) i j=true↔(u n=i/\o n=j\/u n=j/\o n=i):=by
   unfold kpN
   simp only [Bool.or_eq_true,Bool.and_eq_true,beq_iff_eq]
   omega
  by_cases h:u n=i/\o n=j\/u n=j/\o n=i
  ·rw [if_pos (e.2 h),if_pos h]
  ·rw [if_neg fun k=>h (e.1 k),if_neg h]
end Go.Proofs.YtcnilhcplgiidaaDoor
set_option linter.unusedSimpArgs false
set_option linter.unusedVariables false
namespace Go.Proofs.YtcnilhcplgiidaaDoor
open Go Go.RowKit
section
variable {P:Program} {B:Nat} {w0:ybe} {Mx:Nat->Prop} {N:Nat}
end
end Go.Proofs.YtcnilhcplgiidaaDoor
