/- Layer 1: Renumber. -/
import Derived.Test.YtjpbeacamoijhaaDoorZu
import Derived.Test.YtjpbeacamoijhaaDoorZs
set_option linter.unusedSimpArgs false
set_option linter.unusedVariables false
namespace Go.Proofs.YtjpbeacamoijhaaDoor
open Go Go.RowKit
set_option maxRecDepth 100000
set_option maxHeartbeats 8000000
def yia:List (List Nat):=[[68,69,70,71,72,11],[68,69,70,71,72,11],[66,67,71,72,11],[66,67,71,72,11],[66,67,71,72,11],[66,67,68,69,70,11],[66,67,68,69,70,11],[11],[66,67,68,69,70,71,72,73],[]]
def yib:List (List Nat):=[[],[],[0,1],[0,1],[0,1],[0,1,2,3,4],[0,1,2,3,4],[],[0,1,2,3,4,5,6,7],[]]
def yic:List (List Nat):=[[83,84,85,86,87,88],[83,84,85,86,87,88],[81,82,84,85,86,87,88],[81,82,83,86],[81,82,83,86],[81,82,83,84,85],[81,82,83],[81,82,83],[],[]]
def yid:List (List Nat):=[[103,104,105,106,107,108,109,110,111,112,113,114,115],[103,104,105,106,107,108,109,110,111,112,113,114,115],[101,102,105,107,108,109,110,111,112,113,114,115],[101,102,105,107,108,109,110,111,112,113,114,115],[101,102,103,104,107,108,109,110,111,112,113,114,115],[101,102,107,108,109,110,111,112,113,114,115],[101,102,103,104,105,106,108,109,113,114],[101,102,103,104,105,106,107,113,114],[101,102,103,104,105,106,107,113,114],[101,102,103,104,105,106,113,114],[101,102,103,104,105,106,113,114],[101,102,103,104,105,106,113,114],[101,102,103,104,105,106,107,108,109,110,111,112],[101,102,103,104,105,106,107,108,109,110,111,112],[101,102,103,104,105,106],[],[]]
def yie:List (List Nat):=[[],[],[0,1],[0,1],[0,1,2,3],[0,1],[0,1,2,3,4,5],[0,1,2,3,4,5,6],[0,1,2,3,4,5,6],[0,1,2,3,4,5],[0,1,2,3,4,5],[0,1,2,3,4,5],[0,1,2,3,4,5,6,7,8,9,10,11],[0,1,2,3,4,5,6,7,8,9,10,11],[0,1,2,3,4,5],[],[]]
def tabK (f:Nat->Int) (N k:Nat):List Int:=(List.range N).map fun x=>if x<k then f x else 0
theorem yd3 (f:Nat->Int) (N k:Nat):(tabK f N k).length=N:=by simp [tabK]
theorem ysv (f:Nat->Int) (N:Nat):tabK f N 0=List.replicate N 0:=by
 refine List.ext_getElem (by simp [tabK]) fun i h1 h2=>by simp [tabK]
theorem ymf (f:Nat->Int) (N k:Nat) (h:k<N):(tabK f N k).set k (f k)=tabK f N (k+1):=by
 refine List.ext_getElem (by simp [tabK]) fun i h1 h2=>?_
 simp only [List.length_set,yd3] at h1
 rw [List.getElem_set]
 by_cases e:k=i
 ·subst e;simp [tabK]
 ·rw [if_neg e]
  simp only [tabK,List.getElem_map,List.getElem_range]
  by_cases h2:i<k
  ·rw [if_pos h2,if_pos (by omega)]
  ·rw [if_neg h2,if_neg (by omega)]
theorem yj6 (f:Nat->Int) (N:Nat):tabK f N N=(List.range N).map f:=by
 refine List.ext_getElem (by simp [tabK]) fun i h1 h2=>?_
 simp only [yd3] at h1
 simp [tabK,h1]
def nuL (o:List Int) (n:Nat):Nat->List Int
 |0=>(List.range n).map fun _=>(-1:Int)
 |k+1=>(nuL o n k).set (o.getD k 0).toNat k
theorem yk3 (o:List Int) (n:Nat): ∀k,(nuL o n k).length=n
 |0=>by simp [nuL]
 |k+1=>by simp [nuL,yk3 o n k]
def nuB (o:List Int) (n k:Nat):Bool:=decide (o.getD k 0<0)||(decide ((n:Int)<=o.getD k 0)||decide (0<=(nuL o n k).getD (o.getD k 0).toNat 0))
theorem yi8 (o:List Int) (n:Nat): ∀k,(∀i,i<k->nuB o n i=false)->(∀c,c<n->(nuL o n k).getD c 0= -1\/ ∃i:Nat,i<k/\(nuL o n k).getD c 0=i/\(o.getD i 0).toNat=c)/\(∀i,i<k->(nuL o n k).getD (o.getD i 0).toNat 0=i)
 |0,_=>⟨fun c hc=> .inl (by simp [nuL,List.getD_eq_getElem?_getD,hc]),fun i hi=>by omega⟩
 |k+1,h=>by
  obtain ⟨h1,h2⟩:=yi8 o n k fun i hi=>h i (by omega)
  have hk:=h k (by omega)
  simp only [nuB,Bool.or_eq_false_iff,decide_eq_false_iff_not] at hk
  have hl:=yk3 o n k
  have hnew:(o.getD k 0).toNat<(nuL o n k).length:=by omega
  refine ⟨fun c hc=>?_,fun i hi=>?_⟩
  ·simp only [nuL]
   rw [yo8 _ _ _ _ hnew]
   by_cases e:(o.getD k 0).toNat=c
   ·rw [if_pos e];exact .inr ⟨k,by omega,rfl,e⟩
   ·rw [if_neg e]
    rcases h1 c hc with h3|⟨i,h3,h4,h5⟩
    ·exact .inl h3
    ·exact .inr ⟨i,by omega,h4,h5⟩
  ·simp only [nuL]
   rw [yo8 _ _ _ _ hnew]
   by_cases e:i=k
   ·subst e;rw [if_pos rfl]
   ·have h6:=h2 i (by omega)
    rw [if_neg (fun e2=>by rw [e2,h6] at hk;omega),h6]
theorem y00 {o:List Int} {n:Nat} (hl:o.length=n) (h: ∀i,i<n->nuB o n i=false):Ord n (fun i=>(o.getD i 0).toNat) (fun c=>((nuL o n n).getD c 0).toNat):=by
 obtain ⟨h1,h2⟩:=yi8 o n n h
 have hb: ∀i,i<n->(o.getD i 0).toNat<n:=fun i hi=>by
  have:=h i hi
  simp only [nuB,Bool.or_eq_false_iff,decide_eq_false_iff_not] at this
  omega
 have hall: ∀c,c<n->(nuL o n n).getD c 0≠ -1:=fun c hc e=>by
  have hn:(((List.range n).map fun i=>(o.getD i 0).toNat)).Nodup:=yrl (fun x hx y hy exy=>by
   have a:=h2 x (List.mem_range.1 hx)
   have b:=h2 y (List.mem_range.1 hy)
   rw [exy,b] at a;omega) List.nodup_range
  have hm:c∉(List.range n).map fun i=>(o.getD i 0).toNat:=fun hm=>by
   obtain ⟨i,hi,rfl⟩:=List.mem_map.1 hm
   rw [h2 i (List.mem_range.1 hi)] at e;omega
  have:=yce (l:=c::(List.range n).map fun i=>(o.getD i 0).toNat) (k:=List.range n) (List.nodup_cons.2 ⟨hm,hn⟩) (fun y hy=>by
   rcases List.mem_cons.1 hy with rfl|hy
   ·exact List.mem_range.2 hc
   ·obtain ⟨i,hi,rfl⟩:=List.mem_map.1 hy
    exact List.mem_range.2 (hb i (List.mem_range.1 hi)))
  simp at this
  omega
 refine ⟨hb,fun c hc=>?_,fun i hi=>?_,fun c hc=>?_⟩
 ·rcases h1 c hc with h3|⟨i,h3,h4,_⟩
  ·exact absurd h3 (hall c hc)
  ·omega
 ·have:=h2 i hi;omega
 ·rcases h1 c hc with h3|⟨i,h3,h4,h5⟩
  ·exact absurd h3 (hall c hc)
  ·rw [h4,Int.toNat_natCast,h5]
abbrev rnH (s m:List Int) (L:Int) (l:List Int):Hp:=[(2, .cells 3 (.ints l)),(1, .cells 24 (.lst [.nils, .nils,I 0])),(0, .cells 24 (.lst [roI s,roI m,I L]))]
theorem ytj (s m:List Int) (L:Int) (o:List Int) (hv:yai s m L=true) (hl:o.length=s.length) (hK1: ∀i,i<s.length->nuB o s.length i=false):
  Fn Tryd.prog 14 [dgA s m L,roI o] (.tup [dgA (rnS s (fun i=>(o.getD i 0).toNat) s.length) (rnM m (fun i=>(o.getD i 0).toNat) (fun c=>((nuL o s.length s.length).getD c 0).toNat) s.length) L,I 0]):=by
 have hV:=yeu s m L
 rw [hv] at hV
 have v1:=yal hv
 have h64:=v1.s64
 have b0:((o.length:Int)!=s.length)=false:=by rw [hl];simp
 obtain ⟨K0,hK0⟩: ∃K0,K0=s.length:=⟨_,rfl⟩
 have hK: ∀i,i<K0->nuB o s.length i=false:=fun i hi=>hK1 i (by omega)
 refine Fn.introL [.cell 4 24, .tmp 5] Tryd.func14 rfl rfl (by decide) (by simp [Tryd.ntmps14]) ?_;rw [Tryd.ntmps14]
 repeat' (first|omega|(try apply yaa);simp only [go_sem,sevalprocAttr]|apply yab<;>(intro h_;(try simp only [h_]);revert h_)|apply And.intro|with_reducible intro h_|trivial|simp only [go_sem,la2];omega)
 refine ⟨yad.fn rfl hV ?_⟩
 repeat' (first|omega|(try apply yaa);simp only [go_sem,sevalprocAttr,b0]|apply yab<;>(intro h_;(try simp only [h_]);revert h_)|apply And.intro|with_reducible intro h_|trivial|simp only [go_sem,la2];omega)
 refine yat.intro (fun n fr H=> ∃k:Nat,k<=s.length/\n=s.length-k/\fr=[(32,I k),(31,I s.length),(30, .sl 1 2 0 s.length),(7, .sl 1 2 0 s.length),(6,I s.length),(5,I 0),(4, .ptr 1 0),(2, .ptr 0 0),(1,roI o)]/\H=rnH s m L (tabK (fun _=> -1) s.length k)) ?_ ?_
 ·refine ⟨_,_,_,?_,0,by omega,rfl,rfl,rfl⟩
  rw [ysv]
  refine Wk.sub ?_ ?_<;>simp only [go_sem,sevalprocAttr]
 rintro n fr H ⟨k,hk,rfl,rfl,rfl⟩
 have kl:=yd3 (fun _=> -1) s.length k
 by_cases hks:k<s.length
 ·have st:=ymf (fun _=> -1) s.length k hks
  repeat' (first|omega|(try apply yaa);simp only [go_sem,sevalprocAttr,kl,Int.toNat_natCast,st]|apply yab<;>(intro h_;(try simp only [h_]);revert h_)|apply And.intro|with_reducible intro h_|trivial|simp only [go_sem,la2];omega)
  refine ⟨_,_,_,?_,?_,⟨k+1,by omega,rfl,rfl,rfl⟩⟩
  ·omega
  ·refine Wk.sub ?_ ?_<;>simp only [go_sem,sevalprocAttr]
 obtain rfl:k=s.length:=by omega
 rw [yj6,show (List.range s.length).map (fun _=>(-1:Int))=nuL o s.length 0 from rfl]
 clear kl hk hks
 have nl0:=yk3 o s.length 0
 repeat' (first|omega|(try apply yaa);simp only [go_sem,sevalprocAttr,nl0]|apply yab<;>(intro h_;(try simp only [h_]);revert h_)|apply And.intro|with_reducible intro h_|trivial|simp only [go_sem,la2];omega)
 refine yat.intro (fun n fr H=> ∃k:Nat,k<=K0/\n=o.length-k/\fr=[(41,I k),(40,I o.length),(39,roI o),(7, .sl 1 2 0 s.length),(6,I s.length),(5,I 0),(4, .ptr 1 0),(2, .ptr 0 0),(1,roI o)]/\H=rnH s m L (nuL o s.length k)) ?_ ?_
 ·refine ⟨_,_,_,?_,0,by omega,rfl,rfl,rfl⟩
  refine Wk.sub ?_ ?_<;>simp only [go_sem,sevalprocAttr]
 rintro n fr H ⟨k,hk,rfl,rfl,rfl⟩
 have nl:=yk3 o s.length k
 by_cases hk0:k<K0
 ·have hok:=hK k hk0
  simp only [nuB,Bool.or_eq_false_iff] at hok
  obtain ⟨c1,c2,c3⟩:=hok
  have d1:=of_decide_eq_false c1
  have d2:=of_decide_eq_false c2
  have d3:=of_decide_eq_false c3
  have st:(nuL o s.length k).set (o.getD k 0).toNat k=nuL o s.length (k+1):=rfl
  repeat' (first|omega|(try apply yaa);simp only [go_sem,sevalprocAttr,c1,c2,c3,nl,Int.toNat_natCast,st]|apply yab<;>(intro h_;(try simp only [h_]);revert h_)|apply And.intro|with_reducible intro h_|trivial|simp only [go_sem,la2];omega)
  refine ⟨_,_,_,?_,?_,⟨k+1,by omega,rfl,rfl,rfl⟩⟩
  ·omega
  ·refine Wk.sub ?_ ?_<;>simp only [go_sem,sevalprocAttr]
 obtain rfl:k=K0:=by omega
 subst hK0
 have e4:(4*(s.length:Int)).toNat=4*s.length:=by omega
 have hor:=y00 hl hK1
 obtain ⟨hn1,hn2⟩:=yi8 o s.length s.length hK1
 have ob: ∀i,i<s.length->0<=o.getD i 0/\o.getD i 0<s.length:=fun i hi=>by
  have:=hK1 i hi
  simp only [nuB,Bool.or_eq_false_iff,decide_eq_false_iff_not] at this
  omega
 have nb: ∀c,c<s.length->0<=(nuL o s.length s.length).getD c 0/\(nuL o s.length s.length).getD c 0<s.length:=fun c hc=>by
  have h1:=hor.on c hc
  have h2:=hn2 _ (hor.nl c hc)
  try dsimp only at h1
  rw [h1] at h2
  have h3:=hor.nl c hc
  try dsimp only at h3
  omega
 have hml:=v1.len
 obtain ⟨fs,hfs⟩: ∃fs:Nat->Int,(fun i=>s.getD (o.getD i 0).toNat 0)=fs:=⟨_,rfl⟩
 obtain ⟨fm,hfm⟩: ∃fm:Nat->Int,(fun y=>(rnF (fun c=>((nuL o s.length s.length).getD c 0).toNat) (m.getD (rnF (fun i=>(o.getD i 0).toNat) y) 0).toNat:Int))=fm:=⟨_,rfl⟩
 have es:rnS s (fun i=>(o.getD i 0).toNat) s.length=tabK fs s.length s.length:=by rw [yj6,←hfs];rfl
 have em:rnM m (fun i=>(o.getD i 0).toNat) (fun c=>((nuL o s.length s.length).getD c 0).toNat) s.length=tabK fm (4*s.length) (4*s.length):=by rw [yj6,←hfm];rfl
 rw [es,em]
 have fsg: ∀i,fs i=s.getD (o.getD i 0).toNat 0:=fun i=>by rw [←hfs]
 have fmg: ∀i x,i<s.length->x<4->fm (4*i+x)=4*(nuL o s.length s.length).getD ((m.getD (4*(o.getD i 0).toNat+x) 0).toNat/4) 0+(m.getD (4*(o.getD i 0).toNat+x) 0)% 4:=fun i x hi hx=>by
  have b1:=ob i hi
  have b2:=v1.prd.ok.2 (4*(o.getD i 0).toNat+x) (by omega)
  have b3:=nb ((m.getD (4*(o.getD i 0).toNat+x) 0).toNat/4) (by omega)
  rw [←hfm]
  unfold rnF
  dsimp only
  rw [show (4*i+x)/4=i by omega,show (4*i+x)% 4=x by omega]
  omega
 clear hfs hfm es em
 repeat' (first|omega|(first|apply yaa|(refine yaf.intro (id:=19) yia yib (by decide+kernel) mixed ?_)|(refine yaf.intro (id:=23) yic [[],[],[0,1],[0,1,2],[0,1,2],[0,1,2,3,4],[0,1,2],[0,1,2],[],[]] (by decide+kernel) mixed ?_)|(refine yaf.intro (id:=28) yid yie (by decide+kernel) mixed ?_)|skip);simp only [go_sem,sevalprocAttr,nl,Int.toNat_natCast,e4,↓reduceIte,reduceCtorEq,yia,yib,yic,yid,yie]|apply yab<;>(intro h_;(try simp only [h_]);revert h_)|apply And.intro|with_reducible intro h_|trivial|simp only [go_sem,la2];omega)
 generalize hNU:nuL o s.length s.length=NU at*
 refine yat.intro (fun n fr H=> ∃i:Nat,i<=s.length/\n=s.length-i/\fr=[(76,I i),(75,I s.length),(74,roI o),(11, .ptr 11 0),(7, .sl 1 2 0 s.length),(6,I s.length),(5,I 0),(4, .ptr 1 0),(2, .ptr 0 0),(1,roI o)]/\
  H=(11, .cells 24 (.lst [.sl 1 4 0 s.length, .sl 1 7 0 (4*s.length),I L]))::(7, .cells 3 (.ints (tabK fm (4*s.length) (4*i))))::(4, .cells 3 (.ints (tabK fs s.length i)))::rnH s m L NU) ?_ ?_
 ·refine ⟨_,_,_,?_,0,by omega,rfl,rfl,rfl⟩
  rw [Nat.mul_zero,ysv,ysv]
  refine Wk.sub ?_ ?_<;>(simp only [go_sem,sevalprocAttr,hl])
 rintro n fr H ⟨i,hi,rfl,rfl,rfl⟩
 have sl:=yd3 fs s.length i
 by_cases his:i<s.length
 ·have b1:=ob i his
  have st:=ymf fs s.length i his
  rw [fsg] at st
  repeat' (first|omega|(first|apply yaa|(refine yaf.intro (id:=19) yia yib (by decide+kernel) mixed ?_)|(refine yaf.intro (id:=23) yic [[],[],[0,1],[0,1,2],[0,1,2],[0,1,2,3,4],[0,1,2],[0,1,2],[],[]] (by decide+kernel) mixed ?_)|(refine yaf.intro (id:=28) yid yie (by decide+kernel) mixed ?_)|skip);simp only [go_sem,sevalprocAttr,sl,Int.toNat_natCast,st,↓reduceIte,reduceCtorEq,yia,yib,yic,yid,yie]|apply yab<;>(intro h_;(try simp only [h_]);revert h_)|apply And.intro|with_reducible intro h_|trivial|simp only [go_sem,la2];omega)
  refine yat.intro (fun n fr H=> ∃x:Nat,x<=4/\n=4-x/\fr=[(90,I x),(13,I (o.getD i 0)),(12,I i),(76,I i),(75,I s.length),(74,roI o),(11, .ptr 11 0),(7, .sl 1 2 0 s.length),(6,I s.length),(5,I 0),(4, .ptr 1 0),(2, .ptr 0 0),(1,roI o)]/\
   H=(11, .cells 24 (.lst [.sl 1 4 0 s.length, .sl 1 7 0 (4*s.length),I L]))::(7, .cells 3 (.ints (tabK fm (4*s.length) (4*i+x))))::(4, .cells 3 (.ints (tabK fs s.length (i+1))))::rnH s m L NU) ?_ ?_
  ·refine ⟨_,_,_,?_,0,by omega,rfl,rfl,rfl⟩
   refine Wk.sub ?_ ?_<;>simp only [go_sem,sevalprocAttr]
  rintro n fr H ⟨x,hx,rfl,rfl,rfl⟩
  have ml:=yd3 fm (4*s.length) (4*i+x)
  by_cases hx4:x<4
  ·have b2:=v1.prd.ok.2 (4*(o.getD i 0).toNat+x) (by omega)
   have b3:=nb ((m.getD (4*(o.getD i 0).toNat+x) 0).toNat/4) (by omega)
   have st2:=ymf fm (4*s.length) (4*i+x) (by omega)
   rw [fmg i x his hx4] at st2
   have f1:(4*o.getD i 0+(x:Int)).toNat=4*(o.getD i 0).toNat+x:=by omega
   have f3:(4*(i:Int)+(x:Int)).toNat=4*i+x:=by omega
   have f6:=yny (b:=4) b2.1
   have f5:=yb9 (b:=4) b2.1
   obtain ⟨q,hq⟩: ∃q:Nat,(m.getD (4*(o.getD i 0).toNat+x) 0).toNat/4=q:=⟨_,rfl⟩
   have f7:m.getD (4*(o.getD i 0).toNat+x) 0/4=(q:Int):=by omega
   rw [f7] at f5
   rw [hq] at b3 st2
   have nuq:=nl
   obtain ⟨M,hM⟩: ∃M,m.getD (4*(o.getD i 0).toNat+x) 0=M:=⟨_,rfl⟩
   rw [hM] at b2 f5 f6 f7 st2
   repeat' (first|omega|(first|apply yaa|(refine yaf.intro (id:=19) yia yib (by decide+kernel) mixed ?_)|(refine yaf.intro (id:=23) yic [[],[],[0,1],[0,1,2],[0,1,2],[0,1,2,3,4],[0,1,2],[0,1,2],[],[]] (by decide+kernel) mixed ?_)|(refine yaf.intro (id:=28) yid yie (by decide+kernel) mixed ?_)|skip);simp only [go_sem,sevalprocAttr,ml,Int.toNat_natCast,f1,f3,hM,f5,f6,st2,↓reduceIte,reduceCtorEq,yia,yib,yic,yid,yie]|apply yab<;>(intro h_;(try simp only [h_]);revert h_)|apply And.intro|with_reducible intro h_|trivial|simp only [go_sem,la2];omega)
   refine ⟨_,_,_,?_,?_,⟨x+1,by omega,rfl,rfl,rfl⟩⟩
   ·omega
   ·rw [show 4*i+(x+1)=4*i+x+1 by omega]
    refine Wk.sub ?_ ?_<;>simp only [go_sem,sevalprocAttr]
  ·obtain rfl:x=4:=by omega
   repeat' (first|omega|(try apply yaa);simp only [go_sem,sevalprocAttr]|apply yab<;>(intro h_;(try simp only [h_]);revert h_)|apply And.intro|with_reducible intro h_|trivial|simp only [go_sem,la2];omega)
   refine ⟨_,_,_,?_,?_,⟨i+1,by omega,rfl,rfl,rfl⟩⟩
   ·omega
   ·rw [show 4*(i+1)=4*i+4 by omega]
    refine Wk.sub ?_ ?_<;>simp only [go_sem,sevalprocAttr]
 ·obtain rfl:i=s.length:=by omega
  repeat' (first|omega|(try apply yaa);simp only [go_sem,sevalprocAttr,yd3]|apply yab<;>(intro h_;(try simp only [h_]);revert h_)|apply And.intro|with_reducible intro h_|trivial|simp only [go_sem,la2];omega)
  all_goals exact LeA.of (by rw [List.take_of_length_le (by rw [yd3];omega),List.take_of_length_le (by rw [yd3];omega)])
end Go.Proofs.YtjpbeacamoijhaaDoor
