/- Layer 20: the law HomflyPoly. -/
import Derived.Test.YtbblgobamoabkaaGreatDoorZp
import Derived.Test.YtbblgobamoabkaaGreatDoorZx
import Derived.Test.YtbblgobamoabkaaGreatDoorZz
import Derived.Test.YtbblgobamoabkaaGreatDoorZva
namespace Go.Proofs.YtbblgobamoabkaaGreatDoor
open Go Go.RowKit
set_option maxRecDepth 100000
set_option maxHeartbeats 8000000
set_option linter.unusedVariables false
set_option linter.unusedSimpArgs false
def yd5:Tr:=trP [0,1,2] (.node [(3, .node [(4,trD [5,6,7,8,9,10]),(5,trD [4,6,7,8,9,10])]),(5,trD [3,4,6,7,8,9,10])])
theorem yzb (n1 n2:ByteArray):Fn Tryz.prog 12 [bvP false [], .str n1, .str n2] (.str ⟨#[48]⟩):=by
 refine Fn.intro [.tmp 6] Tryz.func12 rfl rfl (by decide) (by simp [Tryz.ntmps12]) ?_;rw [Tryz.ntmps12]
 repeat' (first|omega|(try apply yaa);simp only [go_sem,sevalprocAttr,yad]|apply yab<;>(intro h_;(try simp only [h_]);revert h_)|apply And.intro|with_reducible intro h_|trivial|simp only [go_sem,la2];omega)
theorem yr3 (n1 n2:ByteArray):Fn Tryz.prog 13 [bqP [], .str n1, .str n2] (.str ⟨#[48]⟩):=by
 refine Fn.intro [.tmp 6] Tryz.func13 rfl rfl (by decide) (by simp [Tryz.ntmps13]) ?_;rw [Tryz.ntmps13]
 repeat' (first|omega|(try apply yaa);simp only [go_sem,sevalprocAttr,yad]|apply yab<;>(intro h_;(try simp only [h_]);revert h_)|apply And.intro|with_reducible intro h_|trivial|simp only [go_sem,la2];omega)
theorem y1o {p:List (Int×Int)} (hr:cok2 p) (hl:p.length<=100000): ∃t:ByteArray,Fn Tryz.prog 12 [bvP false p, .str ⟨#[97]⟩, .str ⟨#[122]⟩] (.str t)/\Fn Tryz.prog 13 [bqP p, .str ⟨#[97]⟩, .str ⟨#[122]⟩] (.str t):=by
 by_cases h:0<p.length
 ·exact ⟨_,yjt p ⟨#[97]⟩ ⟨#[122]⟩ h hr (by decide) (by decide) (by omega),yvg p [97] [122] h hr (by decide) (by decide) hl⟩
 ·obtain rfl:p=[]:=List.eq_nil_of_length_eq_zero (by omega)
  exact ⟨_,yzb _ _,yr3 _ _⟩
theorem yov (s m:List Int) (L:Int):Fn Tryz.prog 3 [dgA s m L] (.bool true):=by
 have hA:=yvh
 have hG:=yvi s m L
 cases hg:smB s m L with
 |true=>
  rw [hg] at hG
  refine Fn.intro [.tmp 2] Tryz.func3 rfl rfl (by decide) (by simp [Tryz.ntmps3]) ?_;rw [Tryz.ntmps3]
  repeat' (first|omega|(try apply yaa);simp only [go_sem,sevalprocAttr,hA]|(refine ⟨yae.fn (r:=?_) rfl ?_ ?_⟩;rotate_left;assumption)|(refine ⟨yai.fn (r:=?_) rfl ?_ ?_⟩;rotate_left;assumption)|apply yab<;>(intro h_;(try simp only [h_]);revert h_)|apply And.intro|with_reducible intro h_|trivial|simp only [go_sem,la2];omega)
 |false=>
 rw [hg] at hG
 have hV:=yza s m L
 have hT0:=yon false [] (by decide)
 have hB0:=yke false []
 cases hv:yap s m L with
 |false=>
  rw [hv] at hV
  have hP:=yyf s m L hv
  refine Fn.intro [.tmp 2] Tryz.func3 rfl rfl (by decide) (by simp [Tryz.ntmps3]) ?_;rw [Tryz.ntmps3]
  repeat' (first|omega|(first|apply yaa|(refine yac.intro (id:=13) [[],[],[],[64],[64],[62,63],[],[],[],[],[]] [[],[],[],[],[],[3,4],[],[],[],[],[]] (by decide+kernel) mixed ?_)|(refine yac.introT (id:=13) (yd5) (by decide+kernel) mixed ?_)|skip);simp only [go_sem,sevalprocAttr,yad,↓reduceIte,reduceCtorEq,yd5]|(refine ⟨yae.fn (r:=?_) rfl ?_ ?_⟩;rotate_left;assumption)|(refine ⟨yai.fn (r:=?_) rfl ?_ ?_⟩;rotate_left;assumption)|apply yab<;>(intro h_;(try simp only [h_]);revert h_)|apply And.intro|with_reducible intro h_|trivial|simp only [go_sem,la2];omega)
 |true=>
 rw [hv] at hV
 have v1:=ya1 hv
 have hl0:=v1.l0
 have hl64:=v1.l64
 obtain ⟨l,rfl⟩: ∃l:Nat,L=l:=⟨L.toNat,by omega⟩
 by_cases h0:s.length=0/\l=0
 ·obtain ⟨h1,rfl⟩:=h0
  obtain rfl:s=[]:=List.eq_nil_of_length_eq_zero h1
  have hP:Fn Tryz.prog 8 [dgA [] m ((0:Nat):Int)] (.tup [bvP false [],I 8]):=yyg m hv
  refine Fn.intro [.tmp 2] Tryz.func3 rfl rfl (by decide) (by simp [Tryz.ntmps3]) ?_;rw [Tryz.ntmps3]
  repeat' (first|omega|(first|apply yaa|(refine yac.intro (id:=13) [[],[],[],[64],[64],[62,63],[],[],[],[],[]] [[],[],[],[],[],[3,4],[],[],[],[],[]] (by decide+kernel) mixed ?_)|(refine yac.introT (id:=13) (yd5) (by decide+kernel) mixed ?_)|skip);simp only [go_sem,sevalprocAttr,yad,↓reduceIte,reduceCtorEq,yd5]|(refine ⟨yae.fn (r:=?_) rfl ?_ ?_⟩;rotate_left;assumption)|(refine ⟨yai.fn (r:=?_) rfl ?_ ?_⟩;rotate_left;assumption)|apply yab<;>(intro h_;(try simp only [h_]);revert h_)|apply And.intro|with_reducible intro h_|trivial|simp only [go_sem,la2];omega)
 have bz:((s.length:Int)==0)=false\/((s.length:Int)==0)=true/\((l:Int)==0)=false:=by
  by_cases h1:s.length=0
  ·exact .inr ⟨by rw [beq_iff_eq];omega,by rw [beq_eq_false_iff_ne];omega⟩
  ·exact .inl (by rw [beq_eq_false_iff_ne];omega)
 by_cases h14:14<s.length
 ·have b14:decide ((14:Int)<s.length)=true:=by rw [decide_eq_true_iff];omega
  have b0:((s.length:Int)==0)=false:=by rw [beq_eq_false_iff_ne];omega
  have hP:=yyh s m l hv h14
  refine Fn.intro [.tmp 2] Tryz.func3 rfl rfl (by decide) (by simp [Tryz.ntmps3]) ?_;rw [Tryz.ntmps3]
  repeat' (first|omega|(first|apply yaa|(refine yac.intro (id:=13) [[],[],[],[64],[64],[62,63],[],[],[],[],[]] [[],[],[],[],[],[3,4],[],[],[],[],[]] (by decide+kernel) mixed ?_)|(refine yac.introT (id:=13) (yd5) (by decide+kernel) mixed ?_)|skip);simp only [go_sem,sevalprocAttr,b14,b0,yad,↓reduceIte,reduceCtorEq,yd5]|(refine ⟨yae.fn (r:=?_) rfl ?_ ?_⟩;rotate_left;assumption)|(refine ⟨yai.fn (r:=?_) rfl ?_ ?_⟩;rotate_left;assumption)|apply yab<;>(intro h_;(try simp only [h_]);revert h_)|apply And.intro|with_reducible intro h_|trivial|simp only [go_sem,la2];omega)
 have b14:decide ((14:Int)<s.length)=false:=by rw [decide_eq_false_iff_not];omega
 have hg':=hg
 simp only [smB,Bool.or_eq_false_iff,Bool.and_eq_false_iff,decide_eq_false_iff_not] at hg'
 have hk:=yy5 hg hv (by omega) (by omega)
 have hM:s.length<=6/\3*s.length+l<=26:=by omega
 have S0:=yhf hk hM
 have B0:=yiv.bnd hk hM
 obtain ⟨p,hp⟩:=ybo S0 (by decide)
 have hP:=ylm yiv hk hM hp
 have hR:=yvd s m l hk hM p hp
 have hl:=hp.lenC S0 (by decide)
 obtain ⟨t,ht1,ht2⟩:=y1o (p:=p) (fun k hk'=>by
  have h1:=hp.memB S0 (ycd hk')
  have h2:=hp.bndM B0 _ (ycd hk')
  omega) (by omega)
 have hT1:=yon false p (by omega)
 have hB1:=yke false p
 have hc:=yal p
 have tt:(t.toList==t.toList)=true:=beq_self_eq_true _
 clear hk hM S0 B0 hp hg' hT0 hB0
 rcases bz with b0|⟨b0,b1⟩
 ·refine Fn.intro [.tmp 2] Tryz.func3 rfl rfl (by decide) (by simp [Tryz.ntmps3]) ?_;rw [Tryz.ntmps3]
  repeat' (first|omega|(first|apply yaa|(refine yac.intro (id:=13) [[],[],[],[64],[64],[62,63],[],[],[],[],[]] [[],[],[],[],[],[3,4],[],[],[],[],[]] (by decide+kernel) mixed ?_)|(refine yac.introT (id:=13) (yd5) (by decide+kernel) mixed ?_)|skip);simp only [go_sem,sevalprocAttr,b14,b0,tt,yad,↓reduceIte,reduceCtorEq,yd5]|(refine ⟨yae.fn (r:=?_) rfl ?_ ?_⟩;rotate_left;assumption)|(refine ⟨yai.fn (r:=?_) rfl ?_ ?_⟩;rotate_left;assumption)|apply yab<;>(intro h_;(try simp only [h_]);revert h_)|apply And.intro|with_reducible intro h_|trivial|simp only [go_sem,la2];omega)
 ·refine Fn.intro [.tmp 2] Tryz.func3 rfl rfl (by decide) (by simp [Tryz.ntmps3]) ?_;rw [Tryz.ntmps3]
  repeat' (first|omega|(first|apply yaa|(refine yac.intro (id:=13) [[],[],[],[64],[64],[62,63],[],[],[],[],[]] [[],[],[],[],[],[3,4],[],[],[],[],[]] (by decide+kernel) mixed ?_)|(refine yac.introT (id:=13) (yd5) (by decide+kernel) mixed ?_)|skip);simp only [go_sem,sevalprocAttr,b14,b0,b1,tt,yad,↓reduceIte,reduceCtorEq,yd5]|(refine ⟨yae.fn (r:=?_) rfl ?_ ?_⟩;rotate_left;assumption)|(refine ⟨yai.fn (r:=?_) rfl ?_ ?_⟩;rotate_left;assumption)|apply yab<;>(intro h_;(try simp only [h_]);revert h_)|apply And.intro|with_reducible intro h_|trivial|simp only [go_sem,la2];omega)
end Go.Proofs.YtbblgobamoabkaaGreatDoor
