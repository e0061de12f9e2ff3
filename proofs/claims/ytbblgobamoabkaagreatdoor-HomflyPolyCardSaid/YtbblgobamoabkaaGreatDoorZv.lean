/- The reference of layer 1: strands. -/
import Derived.Test.YtbblgobamoabkaaGreatDoorZu
import Derived.Test.YtbblgobamoabkaaGreatDoorZn
set_option linter.unusedSimpArgs false
set_option linter.unusedVariables false
namespace Go.Proofs.YtbblgobamoabkaaGreatDoor
open Go Go.RowKit
set_option maxRecDepth 100000
set_option maxHeartbeats 8000000
def flS (s m:List Int) (h:Nat):Bool:=outB s h&&ybc h (orbF (yah m) m.length h)
theorem ykx (s m:List Int) (L:Int) (n:Nat) (hsl:s.length=n) (hn:n<=1000) (hml:m.length=4*n) (hm: ∀i,i<m.length->0<=m.getD i 0/\m.getD i 0<4*n):Fn Tryz.prog 63 [dgA s m L] (roLL (lstR (fun h=>orbF (yah m) m.length h) (flS s m) m.length)):=by
 refine Fn.introL [.tmp 2] Tryz.func63 rfl rfl (by decide) (by simp [Tryz.ntmps63]) ?_;rw [Tryz.ntmps63]
 repeat' (first|omega|(try apply yaa);simp only [go_sem,sevalprocAttr]|apply yab<;>(intro h_;(try simp only [h_]);revert h_)|apply And.intro|with_reducible intro h_|trivial|simp only [go_sem,la2];omega)
 refine yaj.intro (fun t fr H=> ∃h:Nat,h<=m.length/\t=m.length-h/\((lstR (fun h=>orbF (yah m) m.length h) (flS s m) h=[]/\fr=[(4,I h),(3, .nils),(1, .ptr 0 0)]/\H=[(0, .cells 24 (.lst [roI s,roI m,I L]))])\/
  (fr=[(4,I h),(3, .sl 1 2 0 (lstR (fun h=>orbF (yah m) m.length h) (flS s m) h).length),(1, .ptr 0 0)]/\H=[(2, .cells 22 (.lst ((lstR (fun h=>orbF (yah m) m.length h) (flS s m) h).map roF))),(0, .cells 24 (.lst [roI s,roI m,I L]))]))) ?_ ?_
 ·refine ⟨_,_,_,?_,0,by omega,rfl, .inl ⟨rfl,rfl,rfl⟩⟩
  refine Wk.sub ?_ ?_<;>simp only [go_sem,sevalprocAttr]
 rintro t fr H ⟨h,hh,rfl,hcase⟩
 have hlen:(lstR (fun h=>orbF (yah m) m.length h) (flS s m) h).length<=h:=by
  have:=List.length_filter_le (flS s m) (List.range h)
  simp only [lstR,List.length_map];simp only [List.length_range] at this;exact this
 have hol:(orbF (yah m) m.length h).length<=m.length+1:=yq3 _ _ _
 rcases hcase with ⟨hnil,rfl,rfl⟩|⟨rfl,rfl⟩
 ·by_cases hlt:h<m.length
  ·have bh:decide ((h:Int)<m.length)=true:=by simp;omega
   have hF:=ymw s m L n h hn hml hm hlt
   have hO:=ykg s h (by omega) (by omega) (by omega)
   repeat' (first|omega|(try apply yaa);simp only [go_sem,sevalprocAttr,bh]|apply yab<;>(intro h_;(try simp only [h_]);revert h_)|apply And.intro|with_reducible intro h_|trivial|simp only [go_sem,la2];omega)
   refine ⟨yae.fn rfl hO ?_⟩
   cases hob:outB s h with
   |false=>
    have hb:flS s m h=false:=by simp [flS,hob]
    have eS:=yhz (orb:=fun h=>orbF (yah m) m.length h) hb
    repeat' (first|omega|(try apply yaa);simp only [go_sem,sevalprocAttr]|apply yab<;>(intro h_;(try simp only [h_]);revert h_)|apply And.intro|with_reducible intro h_|trivial|simp only [go_sem,la2];omega)
    refine ⟨_,_,_,?_,?_,⟨h+1,by omega,rfl, .inl ⟨by rw [eS];exact hnil,rfl,rfl⟩⟩⟩
    ·omega
    ·first|rw [eS]|skip
     refine Wk.sub ?_ ?_<;>simp only [go_sem,sevalprocAttr]
   |true=>
    repeat' (first|omega|(try apply yaa);simp only [go_sem,sevalprocAttr]|apply yab<;>(intro h_;(try simp only [h_]);revert h_)|apply And.intro|with_reducible intro h_|trivial|simp only [go_sem,la2];omega)
    refine ⟨yae.fn rfl hF ?_⟩
    repeat' (first|omega|(try apply yaa);simp only [go_sem,sevalprocAttr]|apply yab<;>(intro h_;(try simp only [h_]);revert h_)|apply And.intro|with_reducible intro h_|trivial|simp only [go_sem,la2];omega)
    refine yaj.intro (fun t fr H=> ∃i:Nat,i<=(orbF (yah m) m.length h).length/\t=(orbF (yah m) m.length h).length-i/\fr=[(7,I i),(6, .bool (ybc h ((orbF (yah m) m.length h).take i))),(5,roI (orbF (yah m) m.length h)),(4,I h),(3, .nils),(1, .ptr 0 0)]/\H=[(0, .cells 24 (.lst [roI s,roI m,I L]))]) ?_ ?_
    ·refine ⟨_,_,_,?_,0,by omega,rfl,rfl,rfl⟩
     refine Wk.sub ?_ ?_<;>simp only [go_sem,sevalprocAttr]
     all_goals simp [ybc]
    rintro t fr H ⟨i,hi,rfl,rfl,rfl⟩
    by_cases hil:i<(orbF (yah m) m.length h).length
    ·have bi:decide ((i:Int)<(orbF (yah m) m.length h).length)=true:=by simp;omega
     have el:=yff (x:=h) hil
     cases hb:ybc h ((orbF (yah m) m.length h).take i) with
     |false=>
      rw [hb] at el
      repeat' (first|omega|(try apply yaa);simp only [go_sem,sevalprocAttr,bi]|apply yab<;>(intro h_;(try simp only [h_]);revert h_)|apply And.intro|with_reducible intro h_|trivial|simp only [go_sem,la2];omega)
      refine ⟨_,_,_,?_,?_,⟨i+1,by omega,rfl,rfl,rfl⟩⟩
      ·omega
      ·rw [el]
       refine Wk.sub ?_ ?_<;>simp only [go_sem,sevalprocAttr]
     |true=>
      rw [hb] at el
      repeat' (first|omega|(try apply yaa);simp only [go_sem,sevalprocAttr,bi]|apply yab<;>(intro h_;(try simp only [h_]);revert h_)|apply And.intro|with_reducible intro h_|trivial|simp only [go_sem,la2];omega)
      refine ⟨_,_,_,?_,?_,⟨i+1,by omega,rfl,rfl,rfl⟩⟩
      ·omega
      ·rw [el]
       refine Wk.sub ?_ ?_<;>simp only [go_sem,sevalprocAttr]
    ·obtain rfl:i=(orbF (yah m) m.length h).length:=by omega
     have bi:decide (((orbF (yah m) m.length h).length:Int)<(orbF (yah m) m.length h).length)=false:=by simp
     have ef:ybc h ((orbF (yah m) m.length h).take (orbF (yah m) m.length h).length)=flS s m h:=by rw [List.take_length];simp [flS,hob]
     rw [ef]
     cases hb:flS s m h with
     |false=>
      have eS:=yhz (orb:=fun h=>orbF (yah m) m.length h) hb
      repeat' (first|omega|(try apply yaa);simp only [go_sem,sevalprocAttr,bi]|apply yab<;>(intro h_;(try simp only [h_]);revert h_)|apply And.intro|with_reducible intro h_|trivial|simp only [go_sem,la2];omega)
      refine ⟨_,_,_,?_,?_,⟨h+1,by omega,rfl, .inl ⟨by rw [eS];exact hnil,rfl,rfl⟩⟩⟩
      ·omega
      ·first|rw [eS]|skip
       refine Wk.sub ?_ ?_<;>simp only [go_sem,sevalprocAttr]
     |true=>
      have eS:=ymv (orb:=fun h=>orbF (yah m) m.length h) hb
      repeat' (first|omega|(try apply yaa);simp only [go_sem,sevalprocAttr,bi,List.length_map]|apply yab<;>(intro h_;(try simp only [h_]);revert h_)|apply And.intro|with_reducible intro h_|trivial|simp only [go_sem,la2];omega)
      refine ⟨_,_,_,?_,?_,⟨h+1,by omega,rfl, .inr ⟨rfl,rfl⟩⟩⟩
      ·omega
      ·rw [eS]
       rw [hnil]
       refine Wk.sub ?_ ?_<;>simp only [go_sem,sevalprocAttr]
       all_goals first
        |rfl
        |exact ⟨rfl,rfl⟩
        |exact ⟨rfl,rfl,rfl⟩
  ·obtain rfl:h=m.length:=by omega
   have bh:decide ((m.length:Int)<m.length)=false:=by simp
   repeat' (first|omega|(try apply yaa);simp only [go_sem,sevalprocAttr,bh]|apply yab<;>(intro h_;(try simp only [h_]);revert h_)|apply And.intro|with_reducible intro h_|trivial|simp only [go_sem,la2];omega)
   all_goals first
    |(rw [hnil];exact LeA.nils (by omega) rfl)
    |exact yck _ _ _ _ h_
    |exact yck _ _ _ _ (List.mem_of_mem_take h_)
    |(rw [List.take_of_length_le (by simp)];exact LeA.refl _)
 ·by_cases hlt:h<m.length
  ·have bh:decide ((h:Int)<m.length)=true:=by simp;omega
   have hF:=ymw s m L n h hn hml hm hlt
   have hO:=ykg s h (by omega) (by omega) (by omega)
   repeat' (first|omega|(try apply yaa);simp only [go_sem,sevalprocAttr,bh]|apply yab<;>(intro h_;(try simp only [h_]);revert h_)|apply And.intro|with_reducible intro h_|trivial|simp only [go_sem,la2];omega)
   refine ⟨yae.fn rfl hO ?_⟩
   cases hob:outB s h with
   |false=>
    have hb:flS s m h=false:=by simp [flS,hob]
    have eS:=yhz (orb:=fun h=>orbF (yah m) m.length h) hb
    repeat' (first|omega|(try apply yaa);simp only [go_sem,sevalprocAttr]|apply yab<;>(intro h_;(try simp only [h_]);revert h_)|apply And.intro|with_reducible intro h_|trivial|simp only [go_sem,la2];omega)
    refine ⟨_,_,_,?_,?_,⟨h+1,by omega,rfl, .inr ⟨rfl,rfl⟩⟩⟩
    ·omega
    ·first|rw [eS]|skip
     refine Wk.sub ?_ ?_<;>simp only [go_sem,sevalprocAttr]
   |true=>
    repeat' (first|omega|(try apply yaa);simp only [go_sem,sevalprocAttr]|apply yab<;>(intro h_;(try simp only [h_]);revert h_)|apply And.intro|with_reducible intro h_|trivial|simp only [go_sem,la2];omega)
    refine ⟨yae.fn rfl hF ?_⟩
    repeat' (first|omega|(try apply yaa);simp only [go_sem,sevalprocAttr]|apply yab<;>(intro h_;(try simp only [h_]);revert h_)|apply And.intro|with_reducible intro h_|trivial|simp only [go_sem,la2];omega)
    refine yaj.intro (fun t fr H=> ∃i:Nat,i<=(orbF (yah m) m.length h).length/\t=(orbF (yah m) m.length h).length-i/\fr=[(7,I i),(6, .bool (ybc h ((orbF (yah m) m.length h).take i))),(5,roI (orbF (yah m) m.length h)),(4,I h),(3, .sl 1 2 0 (lstR (fun h=>orbF (yah m) m.length h) (flS s m) h).length),(1, .ptr 0 0)]/\H=[(2, .cells 22 (.lst ((lstR (fun h=>orbF (yah m) m.length h) (flS s m) h).map roF))),(0, .cells 24 (.lst [roI s,roI m,I L]))]) ?_ ?_
    ·refine ⟨_,_,_,?_,0,by omega,rfl,rfl,rfl⟩
     refine Wk.sub ?_ ?_<;>simp only [go_sem,sevalprocAttr]
     all_goals simp [ybc]
    rintro t fr H ⟨i,hi,rfl,rfl,rfl⟩
    by_cases hil:i<(orbF (yah m) m.length h).length
    ·have bi:decide ((i:Int)<(orbF (yah m) m.length h).length)=true:=by simp;omega
     have el:=yff (x:=h) hil
     cases hb:ybc h ((orbF (yah m) m.length h).take i) with
     |false=>
      rw [hb] at el
      repeat' (first|omega|(try apply yaa);simp only [go_sem,sevalprocAttr,bi]|apply yab<;>(intro h_;(try simp only [h_]);revert h_)|apply And.intro|with_reducible intro h_|trivial|simp only [go_sem,la2];omega)
      refine ⟨_,_,_,?_,?_,⟨i+1,by omega,rfl,rfl,rfl⟩⟩
      ·omega
      ·rw [el]
       refine Wk.sub ?_ ?_<;>simp only [go_sem,sevalprocAttr]
     |true=>
      rw [hb] at el
      repeat' (first|omega|(try apply yaa);simp only [go_sem,sevalprocAttr,bi]|apply yab<;>(intro h_;(try simp only [h_]);revert h_)|apply And.intro|with_reducible intro h_|trivial|simp only [go_sem,la2];omega)
      refine ⟨_,_,_,?_,?_,⟨i+1,by omega,rfl,rfl,rfl⟩⟩
      ·omega
      ·rw [el]
       refine Wk.sub ?_ ?_<;>simp only [go_sem,sevalprocAttr]
    ·obtain rfl:i=(orbF (yah m) m.length h).length:=by omega
     have bi:decide (((orbF (yah m) m.length h).length:Int)<(orbF (yah m) m.length h).length)=false:=by simp
     have ef:ybc h ((orbF (yah m) m.length h).take (orbF (yah m) m.length h).length)=flS s m h:=by rw [List.take_length];simp [flS,hob]
     rw [ef]
     cases hb:flS s m h with
     |false=>
      have eS:=yhz (orb:=fun h=>orbF (yah m) m.length h) hb
      repeat' (first|omega|(try apply yaa);simp only [go_sem,sevalprocAttr,bi]|apply yab<;>(intro h_;(try simp only [h_]);revert h_)|apply And.intro|with_reducible intro h_|trivial|simp only [go_sem,la2];omega)
      refine ⟨_,_,_,?_,?_,⟨h+1,by omega,rfl, .inr ⟨rfl,rfl⟩⟩⟩
      ·omega
      ·first|rw [eS]|skip
       refine Wk.sub ?_ ?_<;>simp only [go_sem,sevalprocAttr]
     |true=>
      have eS:=ymv (orb:=fun h=>orbF (yah m) m.length h) hb
      repeat' (first|omega|(try apply yaa);simp only [go_sem,sevalprocAttr,bi,List.length_map]|apply yab<;>(intro h_;(try simp only [h_]);revert h_)|apply And.intro|with_reducible intro h_|trivial|simp only [go_sem,la2];omega)
      refine ⟨_,_,_,?_,?_,⟨h+1,by omega,rfl, .inr ⟨rfl,rfl⟩⟩⟩
      ·omega
      ·rw [eS]
       rw [yjq]
       refine Wk.sub ?_ ?_<;>simp only [go_sem,sevalprocAttr]
       all_goals first
        |rfl
        |exact ⟨rfl,rfl⟩
        |exact ⟨rfl,rfl,rfl⟩
  ·obtain rfl:h=m.length:=by omega
   have bh:decide ((m.length:Int)<m.length)=false:=by simp
   repeat' (first|omega|(try apply yaa);simp only [go_sem,sevalprocAttr,bh]|apply yab<;>(intro h_;(try simp only [h_]);revert h_)|apply And.intro|with_reducible intro h_|trivial|simp only [go_sem,la2];omega)
   all_goals first
    |(rw [hnil];exact LeA.nils (by omega) rfl)
    |exact yck _ _ _ _ h_
    |exact yck _ _ _ _ (List.mem_of_mem_take h_)
    |(rw [List.take_of_length_le (by simp)];exact LeA.refl _)
end Go.Proofs.YtbblgobamoabkaaGreatDoor
set_option linter.unusedSimpArgs false
set_option linter.unusedVariables false
namespace Go.Proofs.YtbblgobamoabkaaGreatDoor
open Go Go.RowKit
set_option maxRecDepth 100000
theorem yu9 {s:List Int} {h:Int} (h0:0<=h) (hs:s.getD (h/4).toNat 0=1\/s.getD (h/4).toNat 0= -1):outB s (yar h 2)= !outB s h:=by
 have e:yar h 2=h-h % 4+(h % 4+2)% 4:=by
  unfold yar
  have:Int.tmod 2 4=2:=rfl
  rw [this];omega
 have ed:yar h 2/4=h/4:=by rw [e];omega
 have em:yar h 2 % 4=(h % 4+2)% 4:=by rw [e];omega
 unfold outB
 rw [ed,em]
 have:h % 4=0\/h % 4=1\/h % 4=2\/h % 4=3:=by omega
 rcases this with g|g|g|g<;>rcases hs with k|k<;>rw [g,k]<;>decide
theorem y4d {s m:List Int} {L:Int} (hv:ybx s m L) {x:Nat} (hx:x<4*s.length):outB s (yah m x)=outB s x:=by
 have hm:=hv.mt x hx
 have hr:=hm.1
 have hl:=hm.2.1
 have:=yu9 (s:=s) (h:=m.getD x 0) hr (hv.sg _ (by omega))
 unfold yah
 rw [Int.toNat_natCast,this]
 have hne:=hm.2.2.2.2
 cases h1:outB s x<;>cases h2:outB s (m.getD x 0)<;>simp_all
theorem yto {s m:List Int} {L:Int} (hv:ybx s m L) {x:Nat} (hx:x<4*s.length): ∀j,outB s (it (yah m) j x)=outB s x
 |0=>rfl
 |j+1=>by
  have hR:InR s.length (x:Int):=by unfold InR;omega
  have hS:=(ye0 hv.prd).it hR j
  unfold InR at hS
  have e:it (yah m) j (x:Int)=((it (yah m) j (x:Int)).toNat:Int):=by omega
  have h1:=y4d hv (x:=(it (yah m) j (x:Int)).toNat) (by omega)
  rw [←e] at h1
  show outB s (yah m (it (yah m) j x))=_
  rw [h1,yto hv hx j]
theorem yky {s m:List Int} {L:Int} (hv:ybx s m L):lstR (fun h=>orbF (yah m) m.length h) (flS s m) m.length=yam s m:=by
 have hl:=hv.len
 have hR: ∀x:Nat,x<m.length->InR s.length (x:Int):=fun x hx=>by unfold InR;omega
 have hof:=fun (x:Nat) (hx:x<m.length)=>by
  have:=ydm (ye0 hv.prd) (hR x hx)
  rw [←hl] at this;exact this
 refine (ysi (N:=m.length) (want:=outB s) (orb:=orbF (yah m) m.length) ?_ ?_ ?_ ?_ m.length (Nat.le_refl _)).1.symm
 ·intro x hx _ y hy
  have:=(hof x hx).2.1 y hy
  unfold InR at this;omega
 ·intro x hx _
  exact (hof x hx).2.2.2.2.1
 ·intro x y hx hy hw hm
  refine ⟨?_,(hof x hx).2.2.1 y hm⟩
  obtain ⟨j,hj⟩:=((hof x hx).1 y).1 hm
  rw [←hj,yto hv (by omega) j];exact hw
 ·intro x y z hx hy hz _ h1 h2
  exact (hof x hx).2.2.2.1 y h1 z h2
end Go.Proofs.YtbblgobamoabkaaGreatDoor
set_option linter.unusedSimpArgs false
set_option linter.unusedVariables false
namespace Go.Proofs.YtbblgobamoabkaaGreatDoor
open Go Go.RowKit
set_option maxRecDepth 100000
set_option maxHeartbeats 8000000
def badR (s m:List Int):Int:=match badO s m with|some c=>c|none=> -1
theorem ytp (s m:List Int) (L:Int) (hv:yap s m L=true):Fn Tryz.prog 44 [dgA s m L] (I (badR s m)):=by
 have v1:=ya1 hv
 have h64:=v1.s64
 have hl:=v1.len
 have hS:=ykx s m L s.length rfl (by omega) hl (fun i hi=>v1.prd.ok.2 i (by omega))
 rw [yky v1] at hS
 have hsl:=yby s m
 have hmem:=fun l (hl:l∈yam s m)=>yeo v1.prd hl
 unfold badR badO
 refine Fn.intro [.tmp 2] Tryz.func44 rfl rfl (by decide) (by simp [Tryz.ntmps44]) ?_;rw [Tryz.ntmps44]
 repeat' (first|omega|(try apply yaa);simp only [go_sem,sevalprocAttr]|apply yab<;>(intro h_;(try simp only [h_]);revert h_)|apply And.intro|with_reducible intro h_|trivial|simp only [go_sem,la2];omega)
 refine ⟨yae.fn rfl hS ?_⟩
 repeat' (first|omega|(try apply yaa);simp only [go_sem,sevalprocAttr]|apply yab<;>(intro h_;(try simp only [h_]);revert h_)|apply And.intro|with_reducible intro h_|trivial|simp only [go_sem,la2];omega)
 generalize yam s m=ls at*
 refine yaj.intro (fun n fr H=> ∃(i:Nat) (v:List Bool),i<=ls.length/\n=ls.length-i/\v.length=s.length/\yct v (ls.drop i)=yct (List.replicate s.length false) ls/\fr=[(5,I i),(4,roLL ls),(3, .sl 1 1 0 s.length)]/\H=[(1, .cells 4 (.bools v))]) ?_ ?_
 ·refine ⟨_,_,_,?_,0,List.replicate s.length false,by omega,rfl,by simp,rfl,rfl,rfl⟩
  refine Wk.sub ?_ ?_<;>simp only [go_sem,sevalprocAttr]
 rintro n fr H ⟨i,v,hi,rfl,hvl,hbad,rfl,rfl⟩
 by_cases hil:i<ls.length
 ·have hg:=ylc ls i hil
  have hme:=hmem (ls.getD i []) (by simp [hil])
  have bi:decide ((i:Int)<ls.length)=true:=by simp;omega
  rw [yfo ls i [] hil] at hbad
  generalize ls.getD i []=l at*
  repeat' (first|omega|(try apply yaa);simp only [go_sem,sevalprocAttr,hg,bi]|apply yab<;>(intro h_;(try simp only [h_]);revert h_)|apply And.intro|with_reducible intro h_|trivial|simp only [go_sem,la2];omega)
  refine yaj.intro (fun n fr H=> ∃(k:Nat) (v':List Bool),k<=l.length/\n=l.length-k/\v'.length=s.length/\badS v' (l.drop k)=badS v l/\fr=[(6,I k),(5,I i),(4,roLL ls),(3, .sl 1 1 0 s.length)]/\H=[(1, .cells 4 (.bools v'))]) ?_ ?_
  ·refine ⟨_,_,_,?_,0,v,by omega,rfl,hvl,rfl,rfl,rfl⟩
   refine Wk.sub ?_ ?_<;>simp only [go_sem,sevalprocAttr]
  rintro n fr H ⟨k,v',hk,rfl,hvl',hbs,rfl,rfl⟩
  by_cases hkl:k<l.length
  ·have hx:=hme.2 (l.getD k 0) (by simp [hkl])
   have bk:decide ((k:Int)<l.length)=true:=by simp;omega
   rw [yfo l k 0 hkl] at hbs
   have e1:(l.getD k 0).tdiv 4=l.getD k 0/4:=ybe hx.1
   have e2:(l.getD k 0).tmod 2=l.getD k 0 % 2:=yde hx.1
   have hstep: ¬(v'.getD (l.getD k 0/4).toNat false=false/\l.getD k 0 % 2=0)->badS (v'.set (l.getD k 0/4).toNat true) (l.drop (k+1))=badS v l:=fun hn=>by
    rw [←hbs];simp only [badS];rw [if_neg hn]
   have hhit:(v'.getD (l.getD k 0/4).toNat false=false/\l.getD k 0 % 2=0)->yct (List.replicate s.length false) ls=some (l.getD k 0/4):=fun hn=>by
    rw [←hbad]
    simp only [badS] at hbs
    rw [if_pos hn] at hbs
    simp only [yct,←hbs]
   repeat' (first|omega|(try apply yaa);simp only [go_sem,sevalprocAttr,e1,e2,hg,bk]|apply yab<;>(intro h_;(try simp only [h_]);revert h_)|apply And.intro|with_reducible intro h_|trivial|simp only [go_sem,la2];omega)
   all_goals first
    |(rw [hhit ⟨by assumption,by assumption⟩];done)
    |skip
   all_goals refine ⟨_,_,_,?_,?_,⟨k+1,v'.set (l.getD k 0/4).toNat true,by omega,rfl,by simp [hvl'],hstep (by simp_all),rfl,rfl⟩⟩
   all_goals first|omega|refine Wk.sub ?_ ?_<;>simp only [go_sem,sevalprocAttr]
  ·obtain rfl:k=l.length:=by omega
   rw [List.drop_length] at hbs
   have bk:decide ((l.length:Int)<l.length)=false:=by simp
   repeat' (first|omega|(try apply yaa);simp only [go_sem,sevalprocAttr,hg,bk]|apply yab<;>(intro h_;(try simp only [h_]);revert h_)|apply And.intro|with_reducible intro h_|trivial|simp only [go_sem,la2];omega)
   refine ⟨_,_,_,?_,?_,⟨i+1,v',by omega,rfl,hvl',?_,rfl,rfl⟩⟩
   ·omega
   ·refine Wk.sub ?_ ?_<;>simp only [go_sem,sevalprocAttr]
   ·rw [←hbad];simp only [yct,←hbs,badS]
 ·obtain rfl:i=ls.length:=by omega
  rw [List.drop_length] at hbad
  rw [←hbad]
  have bi:decide ((ls.length:Int)<ls.length)=false:=by simp
  repeat' (first|omega|(try apply yaa);simp only [go_sem,sevalprocAttr,bi]|apply yab<;>(intro h_;(try simp only [h_]);revert h_)|apply And.intro|with_reducible intro h_|trivial|simp only [go_sem,la2];omega)
end Go.Proofs.YtbblgobamoabkaaGreatDoor
