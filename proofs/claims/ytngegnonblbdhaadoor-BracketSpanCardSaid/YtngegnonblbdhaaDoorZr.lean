/- slices.Clone at rows of integers. -/
import Derived.Test.YtngegnonblbdhaaDoorZa
import Derived.Test.YtngegnonblbdhaaDoorFs1
import Derived.Test.YtngegnonblbdhaaDoorZq
set_option linter.unusedSimpArgs false
set_option linter.unusedVariables false
namespace Go.Proofs.YtngegnonblbdhaaDoor
open Go Go.RowKit
set_option maxRecDepth 100000
set_option maxHeartbeats 4000000
theorem yut (l:List Int) (h:0<l.length) (hb:l.length<=100000):FnO Tryd.prog 36 [roI l] (.sl 1 0 0 l.length) [(0, .cells 3 (.ints l))]:=by
 refine FnO.intro [.tmp 2] Tryd.func36 rfl rfl (by decide) (by simp [Tryd.ntmps36]) ?_;rw [Tryd.ntmps36]
 repeat' (first|omega|(try apply yaa);simp only [go_sem,sevalprocAttr]|apply yab<;>(intro h_;(try simp only [h_]);revert h_)|apply And.intro|with_reducible intro h_|trivial|simp only [go_sem,la2];omega)
end Go.Proofs.YtngegnonblbdhaaDoor
namespace Go.Proofs.YtngegnonblbdhaaDoor
open Go Go.RowKit
set_option maxRecDepth 100000
set_option maxHeartbeats 8000000
set_option linter.unusedVariables false
set_option linter.unusedSimpArgs false
def ybm:List (List Nat):=[[17,20,21,22,23,24],[16,20,21,22,23,24],[20,21,22,23,24],[20,21,22,23,24],[16,17,18,19,21,22],[16,17,18,19,20],[16,17,18,19,20],[16,17,18,19],[16,17,18,19],[]]
def ya1:List (List Nat):=[[],[0],[],[],[0,1,2,3],[0,1,2,3,4],[0,1,2,3,4],[0,1,2,3],[0,1,2,3],[]]
def ybn:List (List Nat):=[[36,39,40,41,42,43],[35,39,40,41,42,43],[39,40,41,42,43],[39,40,41,42,43],[35,36,37,38,40,41],[35,36,37,38,39],[35,36,37,38,39],[35,36,37,38],[35,36,37,38],[]]
theorem y05 (s m:List Int) (L:Int) (hv:yao s m L=true):Fn Tryd.prog 35 [dgA s m L] (roI (lfN (yb0 m) m.length (yb0 m).length)):=by
 have v1:=yb8 hv
 have h64:=v1.s64
 have hl:=v1.len
 have hD:Sp.Dia m s.length:=⟨v1.prd,fun x hx=>(v1.mt x hx).2.2.1⟩
 have hF:=yxn s m L
 unfold ykw at hF
 rw [hv,if_pos rfl] at hF
 have hr:=yme hD
 have hfl:(yb0 m).length<=m.length:=(yji m.length (fun _=>true) (orbF (yau m) m.length) m.length).2
 generalize yb0 m=fs at*
 refine Fn.introL [.tmp 2] Tryd.func35 rfl rfl (by decide) (by simp [Tryd.ntmps35]) ?_;rw [Tryd.ntmps35]
 repeat' (first|omega|(try apply yaa);simp only [go_sem,sevalprocAttr]|apply yab<;>(intro h_;(try simp only [h_]);revert h_)|apply And.intro|with_reducible intro h_|trivial|simp only [go_sem,la2];omega)
 refine ⟨yad.fn rfl hF ?_⟩
 repeat' (first|omega|(try apply yaa);simp only [go_sem,sevalprocAttr]|apply yab<;>(intro h_;(try simp only [h_]);revert h_)|apply And.intro|with_reducible intro h_|trivial|simp only [go_sem,la2];omega)
 refine yak.intro (fun n' fr H=> ∃i:Nat,i<=fs.length/\n'=fs.length-i/\fr=[(15,I i),(14,I fs.length),(13,roLL fs),(3, .sl 1 1 0 m.length)]/\H=[(1, .cells 3 (.ints (lfN fs m.length i)))]) ?_ ?_
 ·refine ⟨_,_,_,?_,0,by omega,rfl,rfl,rfl⟩
  refine Wk.sub ?_ ?_<;>simp only [go_sem,sevalprocAttr]
  rfl
 rintro n' fr H ⟨i,hi,rfl,rfl,rfl⟩
 have l1:=yim fs m.length
 by_cases hil:i<fs.length
 ·have bi:decide ((i:Int)<fs.length)=true:=by simp;omega
  have hg:=ywe fs i hil
  obtain ⟨f,hf⟩: ∃f,fs.getD i []=f:=⟨_,rfl⟩
  have hfm:f∈fs:=by rw [←hf,List.getD_eq_getElem?_getD,List.getElem?_eq_getElem hil];exact List.getElem_mem _
  obtain ⟨r1,r2⟩:=hr f hfm
  have eL:lfN fs m.length (i+1)=setA (lfN fs m.length i) i f:=by simp only [lfN];rw [hf]
  rw [hf] at hg
  repeat' (first|omega|(try apply yaa);simp only [go_sem,sevalprocAttr,bi,hg]|apply yab<;>(intro h_;(try simp only [h_]);revert h_)|apply And.intro|with_reducible intro h_|trivial|simp only [go_sem,la2];omega)
  refine yak.intro (fun n' fr H=> ∃j:Nat,j<=f.length/\n'=f.length-j/\fr=[(22,I j),(21,I f.length),(20,roI f),(4,I i),(15,I i),(14,I fs.length),(13,roLL fs),(3, .sl 1 1 0 m.length)]/\H=[(1, .cells 3 (.ints (setA (lfN fs m.length i) i (f.take j))))]) ?_ ?_
  ·refine ⟨_,_,_,?_,0,by omega,rfl,rfl,rfl⟩
   refine Wk.sub ?_ ?_<;>simp only [go_sem,sevalprocAttr]
   all_goals rfl
  rintro n' fr H ⟨j,hj,rfl,rfl,rfl⟩
  have l2:=yjq (i:Int) (f.take j) (lfN fs m.length i)
  rw [l1] at l2
  by_cases hjl:j<f.length
  ·have bj:decide ((j:Int)<f.length)=true:=by simp;omega
   have hx:=r2 (f.getD j 0) (by rw [List.getD_eq_getElem?_getD,List.getElem?_eq_getElem hjl];exact List.getElem_mem _)
   have et:f.take (j+1)=f.take j++[f.getD j 0]:=by rw [List.take_succ_eq_append_getElem hjl];simp [hjl]
   have es:setA (lfN fs m.length i) i (f.take (j+1))=(setA (lfN fs m.length i) i (f.take j)).set (f.getD j 0).toNat i:=by rw [et,yox];rfl
   obtain ⟨x,hxx⟩: ∃x,f.getD j 0=x:=⟨_,rfl⟩
   rw [hxx] at hx es
   repeat' (first|omega|(try apply yaa);simp only [go_sem,sevalprocAttr,bj,l2,hxx]|apply yab<;>(intro h_;(try simp only [h_]);revert h_)|apply And.intro|with_reducible intro h_|trivial|simp only [go_sem,la2];omega)
   refine ⟨_,_,_,?_,Wk.sub ?_ ?_,j+1,by omega,rfl,rfl,rfl⟩
   ·omega
   ·simp only [go_sem,sevalprocAttr]
   ·simp only [go_sem,sevalprocAttr,es]
  ·obtain rfl:j=f.length:=by omega
   have bj:decide ((f.length:Int)<f.length)=false:=by simp
   rw [List.take_length,←eL]
   repeat' (first|omega|(try apply yaa);simp only [go_sem,sevalprocAttr,bj]|apply yab<;>(intro h_;(try simp only [h_]);revert h_)|apply And.intro|with_reducible intro h_|trivial|simp only [go_sem,la2];omega)
   refine ⟨_,_,_,?_,Wk.sub ?_ ?_,i+1,by omega,rfl,rfl,rfl⟩
   ·omega
   ·simp only [go_sem,sevalprocAttr]
   ·simp only [go_sem,sevalprocAttr]
 ·obtain rfl:i=fs.length:=by omega
  have bi:decide ((fs.length:Int)<fs.length)=false:=by simp
  have lt:=List.take_of_length_le (Nat.le_of_eq (l1 fs.length))
  repeat' (first|omega|(try apply yaa);simp only [go_sem,sevalprocAttr,bi,l1]|apply yab<;>(intro h_;(try simp only [h_]);revert h_)|apply And.intro|with_reducible intro h_|trivial|simp only [go_sem,la2];omega)
  all_goals exact LeA.of (by rw [lt])
theorem yhy (o:Hp) (ho:o=[]\/ ∃q,o=[(4, .cells 3 (.ints q))]) (l:List Int) (hl:l.length=4) {fr:Fr} {K:AV->Fr->Hp->Prop}
  (hK: ∀(l':List Int) (r:Nat),l'.length=4->r<=4->(r<4-> ∃i,0<i/\i<4/\l.getD i 0=l.getD (i-1) 0)->(r=4-> ∀i,0<i->i<4->l.getD i 0≠l.getD (i-1) 0)->K (.sl 1 5 0 r) fr (stH l' o)):
  ya7 Tryd.prog 38 [.sl 1 5 0 4] fr (stH l o) K:=by
 refine ya7.intro [.tmp 2] Tryd.func38 rfl rfl (by decide) (by simp [Tryd.ntmps38]) ?_;rw [Tryd.ntmps38]
 repeat' (first|omega|(try apply yaa);simp only [go_sem,sevalprocAttr]|apply yab<;>(intro h_;(try simp only [h_]);revert h_)|apply And.intro|with_reducible intro h_|trivial|simp only [go_sem,la2];omega)
 refine yak.intro (fun m fr' H=> ∃k:Nat,1<=k/\k<=4/\(∀i,0<i->i<k->l.getD i 0≠l.getD (i-1) 0)/\m=4-k/\fr'=[(3,I k),(0, .sl 1 5 0 4)]++lft fr/\H=stH l o) ?_ ?_
 ·refine ⟨_,_,_,?_,1,by omega,by omega,fun i h1 h2=>by omega,rfl,rfl,rfl⟩
  refine Wk.appS ?_ (fun t ht=>?_) rfl<;>(simp only [go_sem,sevalprocAttr])
  all_goals repeat rw [if_neg (by omega)]
 rintro m fr' H ⟨k,hk1,hk,hd,rfl,rfl,rfl⟩
 by_cases hk4:k<4
 ·have bk:decide ((k:Int)<4)=true:=by simp;omega
  have ek:((k:Int)-1).toNat=k-1:=by omega
  by_cases he:l.getD k 0=l.getD (k-1) 0
  ·have be:(l.getD k 0==l.getD (k-1) 0)=true:=by rw [he];exact beq_self_eq_true _
   rcases ho with rfl|⟨q,rfl⟩
   ·repeat' (first|omega|(first|apply yaa|(refine yac.intro (id:=6) ybm ya1 (by decide+kernel) mixed ?_)|(refine yac.intro (id:=11) ybn ya1 (by decide+kernel) mixed ?_)|skip);simp only [go_sem,sevalprocAttr,bk,ek,be,hl,↓reduceIte,reduceCtorEq,ybm,ya1,ybn]|apply yab<;>(intro h_;(try simp only [h_]);revert h_)|apply And.intro|with_reducible intro h_|trivial|simp only [go_sem,la2];omega)
    refine yak.intro (fun m fr' H=> ∃(kk k2:Nat) (l':List Int),1<=k2/\k2<=4-k/\kk<k+k2/\l'.length=4/\m=4-k-k2/\fr'=[(5,I k2),(4, .sl 1 5 k (4-k)),(3,I kk),(0, .sl 1 5 0 4)]++lft fr/\H=stH l' []) ?_ ?_
    ·refine ⟨_,_,_,?_,k,1,l,by omega,by omega,by omega,hl,rfl,rfl,rfl⟩
     refine Wk.appS (A:=[(5,I ((1:Nat):Int)),(4, .sl 1 5 k (4-k)),(3,I k),(0, .sl 1 5 0 4)]) ?_ (fun t ht=>?_) rfl<;>(simp only [go_sem,sevalprocAttr])
     all_goals repeat rw [if_neg (by omega)]
    rintro m fr' H ⟨kk,k2,l',h1,h2,h3,hl',rfl,rfl,rfl⟩
    by_cases h4:k2<4-k
    ·have b4:decide ((k2:Int)<((4-k:Nat):Int))=true:=by simp;omega
     have e4:(k+((k2:Int)-1).toNat)=k+k2-1:=by omega
     have e5:((k2:Int)-1).toNat=k2-1:=by omega
     by_cases h5:l'.getD (k+k2) 0=l'.getD (k+(k2-1)) 0
     ·have b5:(l'.getD (k+k2) 0 !=l'.getD (k+(k2-1)) 0)=false:=by rw [h5];simp
      repeat' (first|omega|(first|apply yaa|(refine yac.intro (id:=6) ybm ya1 (by decide+kernel) mixed ?_)|(refine yac.intro (id:=11) ybn ya1 (by decide+kernel) mixed ?_)|skip);simp only [go_sem,sevalprocAttr,b4,e5,b5,hl',↓reduceIte,reduceCtorEq,ybm,ya1,ybn]|apply yab<;>(intro h_;(try simp only [h_]);revert h_)|apply And.intro|with_reducible intro h_|trivial|simp only [go_sem,la2];omega)
      refine ⟨_,_,_,?_,?_,kk,k2+1,l',by omega,by omega,by omega,hl',rfl,rfl,rfl⟩
      ·omega
      ·refine Wk.appS (A:=[(5,I ((k2+1:Nat):Int)),(4, .sl 1 5 k (4-k)),(3,I kk),(0, .sl 1 5 0 4)]) ?_ (fun t ht=>?_) rfl<;>(simp only [go_sem,sevalprocAttr])
       all_goals repeat rw [if_neg (by omega)]
     ·have b5:(l'.getD (k+k2) 0 !=l'.getD (k+(k2-1)) 0)=true:=by rw [bne_iff_ne];exact h5
      repeat' (first|omega|(first|apply yaa|(refine yac.intro (id:=6) ybm ya1 (by decide+kernel) mixed ?_)|(refine yac.intro (id:=11) ybn ya1 (by decide+kernel) mixed ?_)|skip);simp only [go_sem,sevalprocAttr,b4,e5,b5,hl',List.length_set,↓reduceIte,reduceCtorEq,ybm,ya1,ybn]|apply yab<;>(intro h_;(try simp only [h_]);revert h_)|apply And.intro|with_reducible intro h_|trivial|simp only [go_sem,la2];omega)
      refine ⟨_,_,_,?_,?_,kk+1,k2+1,l'.set kk (l'.getD (k+k2) 0),by omega,by omega,by omega,by rw [List.length_set];exact hl',rfl,rfl,rfl⟩
      ·omega
      ·refine Wk.appS (A:=[(5,I ((k2+1:Nat):Int)),(4, .sl 1 5 k (4-k)),(3,I ((kk+1:Nat):Int)),(0, .sl 1 5 0 4)]) ?_ (fun t ht=>?_) rfl<;>(simp only [go_sem,sevalprocAttr])
       all_goals repeat rw [if_neg (by omega)]
    ·have b4:decide ((k2:Int)<((4-k:Nat):Int))=false:=by simp;omega
     repeat' (first|omega|(first|apply yaa|(refine yac.intro (id:=6) ybm ya1 (by decide+kernel) mixed ?_)|(refine yac.intro (id:=11) ybn ya1 (by decide+kernel) mixed ?_)|skip);simp only [go_sem,sevalprocAttr,b4,↓reduceIte,reduceCtorEq,ybm,ya1,ybn]|apply yab<;>(intro h_;(try simp only [h_]);revert h_)|apply And.intro|with_reducible intro h_|trivial|simp only [go_sem,la2];omega)
     refine SpL.clear (t:=22) (e:=3) (id:=5) (n:=4-kk) (a:=kk) (l:=l') rfl rfl (by simp only [go_sem,sevalprocAttr]) (by simp only [go_sem,sevalprocAttr]) (by simp only [go_sem,sevalprocAttr]) rfl (by omega) (by omega) ?_
     repeat' (first|omega|(try apply yaa);simp only [go_sem,sevalprocAttr]|apply yab<;>(intro h_;(try simp only [h_]);revert h_)|apply And.intro|with_reducible intro h_|trivial|simp only [go_sem,la2];omega)
     all_goals exact hK (zrL l' kk (4-kk)) kk (by rw [yin];exact hl') (by omega) (fun _=>⟨k,by omega,hk4,he⟩) fun h=>by omega
   ·repeat' (first|omega|(first|apply yaa|(refine yac.intro (id:=6) ybm ya1 (by decide+kernel) mixed ?_)|(refine yac.intro (id:=11) ybn ya1 (by decide+kernel) mixed ?_)|skip);simp only [go_sem,sevalprocAttr,bk,ek,be,hl,↓reduceIte,reduceCtorEq,ybm,ya1,ybn]|apply yab<;>(intro h_;(try simp only [h_]);revert h_)|apply And.intro|with_reducible intro h_|trivial|simp only [go_sem,la2];omega)
    refine yak.intro (fun m fr' H=> ∃(kk k2:Nat) (l':List Int),1<=k2/\k2<=4-k/\kk<k+k2/\l'.length=4/\m=4-k-k2/\fr'=[(5,I k2),(4, .sl 1 5 k (4-k)),(3,I kk),(0, .sl 1 5 0 4)]++lft fr/\H=stH l' [(4, .cells 3 (.ints q))]) ?_ ?_
    ·refine ⟨_,_,_,?_,k,1,l,by omega,by omega,by omega,hl,rfl,rfl,rfl⟩
     refine Wk.appS (A:=[(5,I ((1:Nat):Int)),(4, .sl 1 5 k (4-k)),(3,I k),(0, .sl 1 5 0 4)]) ?_ (fun t ht=>?_) rfl<;>(simp only [go_sem,sevalprocAttr])
     all_goals repeat rw [if_neg (by omega)]
    rintro m fr' H ⟨kk,k2,l',h1,h2,h3,hl',rfl,rfl,rfl⟩
    by_cases h4:k2<4-k
    ·have b4:decide ((k2:Int)<((4-k:Nat):Int))=true:=by simp;omega
     have e4:(k+((k2:Int)-1).toNat)=k+k2-1:=by omega
     have e5:((k2:Int)-1).toNat=k2-1:=by omega
     by_cases h5:l'.getD (k+k2) 0=l'.getD (k+(k2-1)) 0
     ·have b5:(l'.getD (k+k2) 0 !=l'.getD (k+(k2-1)) 0)=false:=by rw [h5];simp
      repeat' (first|omega|(first|apply yaa|(refine yac.intro (id:=6) ybm ya1 (by decide+kernel) mixed ?_)|(refine yac.intro (id:=11) ybn ya1 (by decide+kernel) mixed ?_)|skip);simp only [go_sem,sevalprocAttr,b4,e5,b5,hl',↓reduceIte,reduceCtorEq,ybm,ya1,ybn]|apply yab<;>(intro h_;(try simp only [h_]);revert h_)|apply And.intro|with_reducible intro h_|trivial|simp only [go_sem,la2];omega)
      refine ⟨_,_,_,?_,?_,kk,k2+1,l',by omega,by omega,by omega,hl',rfl,rfl,rfl⟩
      ·omega
      ·refine Wk.appS (A:=[(5,I ((k2+1:Nat):Int)),(4, .sl 1 5 k (4-k)),(3,I kk),(0, .sl 1 5 0 4)]) ?_ (fun t ht=>?_) rfl<;>(simp only [go_sem,sevalprocAttr])
       all_goals repeat rw [if_neg (by omega)]
     ·have b5:(l'.getD (k+k2) 0 !=l'.getD (k+(k2-1)) 0)=true:=by rw [bne_iff_ne];exact h5
      repeat' (first|omega|(first|apply yaa|(refine yac.intro (id:=6) ybm ya1 (by decide+kernel) mixed ?_)|(refine yac.intro (id:=11) ybn ya1 (by decide+kernel) mixed ?_)|skip);simp only [go_sem,sevalprocAttr,b4,e5,b5,hl',List.length_set,↓reduceIte,reduceCtorEq,ybm,ya1,ybn]|apply yab<;>(intro h_;(try simp only [h_]);revert h_)|apply And.intro|with_reducible intro h_|trivial|simp only [go_sem,la2];omega)
      refine ⟨_,_,_,?_,?_,kk+1,k2+1,l'.set kk (l'.getD (k+k2) 0),by omega,by omega,by omega,by rw [List.length_set];exact hl',rfl,rfl,rfl⟩
      ·omega
      ·refine Wk.appS (A:=[(5,I ((k2+1:Nat):Int)),(4, .sl 1 5 k (4-k)),(3,I ((kk+1:Nat):Int)),(0, .sl 1 5 0 4)]) ?_ (fun t ht=>?_) rfl<;>(simp only [go_sem,sevalprocAttr])
       all_goals repeat rw [if_neg (by omega)]
    ·have b4:decide ((k2:Int)<((4-k:Nat):Int))=false:=by simp;omega
     repeat' (first|omega|(first|apply yaa|(refine yac.intro (id:=6) ybm ya1 (by decide+kernel) mixed ?_)|(refine yac.intro (id:=11) ybn ya1 (by decide+kernel) mixed ?_)|skip);simp only [go_sem,sevalprocAttr,b4,↓reduceIte,reduceCtorEq,ybm,ya1,ybn]|apply yab<;>(intro h_;(try simp only [h_]);revert h_)|apply And.intro|with_reducible intro h_|trivial|simp only [go_sem,la2];omega)
     refine SpL.clear (t:=22) (e:=3) (id:=5) (n:=4-kk) (a:=kk) (l:=l') rfl rfl (by simp only [go_sem,sevalprocAttr]) (by simp only [go_sem,sevalprocAttr]) (by simp only [go_sem,sevalprocAttr]) rfl (by omega) (by omega) ?_
     repeat' (first|omega|(try apply yaa);simp only [go_sem,sevalprocAttr]|apply yab<;>(intro h_;(try simp only [h_]);revert h_)|apply And.intro|with_reducible intro h_|trivial|simp only [go_sem,la2];omega)
     all_goals exact hK (zrL l' kk (4-kk)) kk (by rw [yin];exact hl') (by omega) (fun _=>⟨k,by omega,hk4,he⟩) fun h=>by omega
  ·have be:(l.getD k 0==l.getD (k-1) 0)=false:=by rw [beq_eq_false_iff_ne];exact he
   rcases ho with rfl|⟨q,rfl⟩
   all_goals (repeat' (first|omega|(first|apply yaa|(refine yac.intro (id:=6) ybm ya1 (by decide+kernel) mixed ?_)|(refine yac.intro (id:=11) ybn ya1 (by decide+kernel) mixed ?_)|skip);simp only [go_sem,sevalprocAttr,bk,ek,be,hl,↓reduceIte,reduceCtorEq,ybm,ya1,ybn]|apply yab<;>(intro h_;(try simp only [h_]);revert h_)|apply And.intro|with_reducible intro h_|trivial|simp only [go_sem,la2];omega))
   all_goals (
    refine ⟨_,_,_,?_,?_,k+1,by omega,by omega,fun i h1 h2=>?_,rfl,rfl,rfl⟩
    ·omega
    ·refine Wk.appS (A:=[(3,I ((k+1:Nat):Int)),(0, .sl 1 5 0 4)]) ?_ (fun t ht=>?_) rfl<;>(simp only [go_sem,sevalprocAttr])
     all_goals repeat rw [if_neg (by omega)]
    ·by_cases e:i=k
     ·subst e;exact he
     ·exact hd i h1 (by omega))
 ·obtain rfl:k=4:=by omega
  repeat' (first|omega|(try apply yaa);simp only [go_sem,sevalprocAttr]|apply yab<;>(intro h_;(try simp only [h_]);revert h_)|apply And.intro|with_reducible intro h_|trivial|simp only [go_sem,la2];omega)
  all_goals exact hK l 4 hl (by omega) (fun h=>by omega) fun _=>hd
end Go.Proofs.YtngegnonblbdhaaDoor
