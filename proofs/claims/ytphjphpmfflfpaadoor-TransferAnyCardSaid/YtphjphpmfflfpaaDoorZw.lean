/- Layer 1: Renumber. -/
import Derived.Test.YtphjphpmfflfpaaDoorZo
import Derived.Test.YtphjphpmfflfpaaDoorZv
import Derived.Test.YtphjphpmfflfpaaDoorTo2
import Derived.Test.YtphjphpmfflfpaaDoorZl
import Derived.Test.YtphjphpmfflfpaaDoorZr
import Derived.Test.YtphjphpmfflfpaaDoorZu
set_option linter.unusedSimpArgs false
set_option linter.unusedVariables false
namespace Go.Proofs.YtphjphpmfflfpaaDoor
open Go Go.RowKit
set_option maxRecDepth 100000
set_option maxHeartbeats 8000000
def yhc:List (List Nat):=[[68,69,70,71,72,11],[68,69,70,71,72,11],[66,67,71,72,11],[66,67,71,72,11],[66,67,71,72,11],[66,67,68,69,70,11],[66,67,68,69,70,11],[11],[66,67,68,69,70,71,72,73],[]]
def yhd:List (List Nat):=[[],[],[0,1],[0,1],[0,1],[0,1,2,3,4],[0,1,2,3,4],[],[0,1,2,3,4,5,6,7],[]]
def yhe:List (List Nat):=[[83,84,85,86,87,88],[83,84,85,86,87,88],[81,82,84,85,86,87,88],[81,82,83,86],[81,82,83,86],[81,82,83,84,85],[81,82,83],[81,82,83],[],[]]
def yhf:List (List Nat):=[[103,104,105,106,107,108,109,110,111,112,113,114,115],[103,104,105,106,107,108,109,110,111,112,113,114,115],[101,102,105,107,108,109,110,111,112,113,114,115],[101,102,105,107,108,109,110,111,112,113,114,115],[101,102,103,104,107,108,109,110,111,112,113,114,115],[101,102,107,108,109,110,111,112,113,114,115],[101,102,103,104,105,106,108,109,113,114],[101,102,103,104,105,106,107,113,114],[101,102,103,104,105,106,107,113,114],[101,102,103,104,105,106,113,114],[101,102,103,104,105,106,113,114],[101,102,103,104,105,106,113,114],[101,102,103,104,105,106,107,108,109,110,111,112],[101,102,103,104,105,106,107,108,109,110,111,112],[101,102,103,104,105,106],[],[]]
def yhg:List (List Nat):=[[],[],[0,1],[0,1],[0,1,2,3],[0,1],[0,1,2,3,4,5],[0,1,2,3,4,5,6],[0,1,2,3,4,5,6],[0,1,2,3,4,5],[0,1,2,3,4,5],[0,1,2,3,4,5],[0,1,2,3,4,5,6,7,8,9,10,11],[0,1,2,3,4,5,6,7,8,9,10,11],[0,1,2,3,4,5],[],[]]
def tabK (f:Nat->Int) (N k:Nat):List Int:=(List.range N).map fun x=>if x<k then f x else 0
theorem yc8 (f:Nat->Int) (N k:Nat):(tabK f N k).length=N:=by simp [tabK]
theorem ysr (f:Nat->Int) (N:Nat):tabK f N 0=List.replicate N 0:=by
 refine List.ext_getElem (by simp [tabK]) fun i h1 h2=>by simp [tabK]
theorem ylx (f:Nat->Int) (N k:Nat) (h:k<N):(tabK f N k).set k (f k)=tabK f N (k+1):=by
 refine List.ext_getElem (by simp [tabK]) fun i h1 h2=>?_
 simp only [List.length_set,yc8] at h1
 rw [List.getElem_set]
 by_cases e:k=i
 ·subst e;simp [tabK]
 ·rw [if_neg e]
  simp only [tabK,List.getElem_map,List.getElem_range]
  by_cases h2:i<k
  ·rw [if_pos h2,if_pos (by omega)]
  ·rw [if_neg h2,if_neg (by omega)]
theorem yja (f:Nat->Int) (N:Nat):tabK f N N=(List.range N).map f:=by
 refine List.ext_getElem (by simp [tabK]) fun i h1 h2=>?_
 simp only [yc8] at h1
 simp [tabK,h1]
def nuL (o:List Int) (n:Nat):Nat->List Int
 |0=>(List.range n).map fun _=>(-1:Int)
 |k+1=>(nuL o n k).set (o.getD k 0).toNat k
theorem ykc (o:List Int) (n:Nat): ∀k,(nuL o n k).length=n
 |0=>by simp [nuL]
 |k+1=>by simp [nuL,ykc o n k]
def nuB (o:List Int) (n k:Nat):Bool:=decide (o.getD k 0<0)||(decide ((n:Int)<=o.getD k 0)||decide (0<=(nuL o n k).getD (o.getD k 0).toNat 0))
theorem yic (o:List Int) (n:Nat): ∀k,(∀i,i<k->nuB o n i=false)->(∀c,c<n->(nuL o n k).getD c 0= -1\/ ∃i:Nat,i<k/\(nuL o n k).getD c 0=i/\(o.getD i 0).toNat=c)/\(∀i,i<k->(nuL o n k).getD (o.getD i 0).toNat 0=i)
 |0,_=>⟨fun c hc=> .inl (by simp [nuL,List.getD_eq_getElem?_getD,hc]),fun i hi=>by omega⟩
 |k+1,h=>by
  obtain ⟨h1,h2⟩:=yic o n k fun i hi=>h i (by omega)
  have hk:=h k (by omega)
  simp only [nuB,Bool.or_eq_false_iff,decide_eq_false_iff_not] at hk
  have hl:=ykc o n k
  have hnew:(o.getD k 0).toNat<(nuL o n k).length:=by omega
  refine ⟨fun c hc=>?_,fun i hi=>?_⟩
  ·simp only [nuL]
   rw [yix _ _ _ _ hnew]
   by_cases e:(o.getD k 0).toNat=c
   ·rw [if_pos e];exact .inr ⟨k,by omega,rfl,e⟩
   ·rw [if_neg e]
    rcases h1 c hc with h3|⟨i,h3,h4,h5⟩
    ·exact .inl h3
    ·exact .inr ⟨i,by omega,h4,h5⟩
  ·simp only [nuL]
   rw [yix _ _ _ _ hnew]
   by_cases e:i=k
   ·subst e;rw [if_pos rfl]
   ·have h6:=h2 i (by omega)
    rw [if_neg (fun e2=>by rw [e2,h6] at hk;omega),h6]
theorem yzw {o:List Int} {n:Nat} (hl:o.length=n) (h: ∀i,i<n->nuB o n i=false):Ord n (fun i=>(o.getD i 0).toNat) (fun c=>((nuL o n n).getD c 0).toNat):=by
 obtain ⟨h1,h2⟩:=yic o n n h
 have hb: ∀i,i<n->(o.getD i 0).toNat<n:=fun i hi=>by
  have:=h i hi
  simp only [nuB,Bool.or_eq_false_iff,decide_eq_false_iff_not] at this
  omega
 have hall: ∀c,c<n->(nuL o n n).getD c 0≠ -1:=fun c hc e=>by
  have hn:(((List.range n).map fun i=>(o.getD i 0).toNat)).Nodup:=yc6 (fun x hx y hy exy=>by
   have a:=h2 x (List.mem_range.1 hx)
   have b:=h2 y (List.mem_range.1 hy)
   rw [exy,b] at a;omega) List.nodup_range
  have hm:c∉(List.range n).map fun i=>(o.getD i 0).toNat:=fun hm=>by
   obtain ⟨i,hi,rfl⟩:=List.mem_map.1 hm
   rw [h2 i (List.mem_range.1 hi)] at e;omega
  have:=yax (l:=c::(List.range n).map fun i=>(o.getD i 0).toNat) (k:=List.range n) (List.nodup_cons.2 ⟨hm,hn⟩) (fun y hy=>by
   rcases List.mem_cons.1 hy with rfl|hy
   ·exact List.mem_range.2 hc
   ·obtain ⟨i,hi,rfl⟩:=List.mem_map.1 hy
    exact List.mem_range.2 (hb i (List.mem_range.1 hi)))
  simp at this
  omega
 refine ⟨hb,fun c hc=>?_,fun i hi=>?_,fun c hc=>?_⟩
 ·rcases h1 c hc with h3|⟨i,h3,h4,_⟩
  ·exact absurd h3 (hall c hc)
  ·omega
 ·have:=h2 i hi;omega
 ·rcases h1 c hc with h3|⟨i,h3,h4,h5⟩
  ·exact absurd h3 (hall c hc)
  ·rw [h4,Int.toNat_natCast,h5]
abbrev rnH (s m:List Int) (L:Int) (l:List Int):Hp:=[(2, .cells 3 (.ints l)),(1, .cells 31 (.lst [.nils, .nils,I 0])),(0, .cells 31 (.lst [roI s,roI m,I L]))]
theorem yte (s m:List Int) (L:Int) (o:List Int) (hv:yal s m L=true) (hl:o.length=s.length) (hK1: ∀i,i<s.length->nuB o s.length i=false):
  Fn Tryd.prog 16 [dgA s m L,roI o] (.tup [dgA (rnS s (fun i=>(o.getD i 0).toNat) s.length) (rnM m (fun i=>(o.getD i 0).toNat) (fun c=>((nuL o s.length s.length).getD c 0).toNat) s.length) L,I 0]):=by
 have hV:=yhu s m L
 rw [hv] at hV
 have v1:=yb2 hv
 have h64:=v1.s64
 have b0:((o.length:Int)!=s.length)=false:=by rw [hl];simp
 obtain ⟨K0,hK0⟩: ∃K0,K0=s.length:=⟨_,rfl⟩
 have hK: ∀i,i<K0->nuB o s.length i=false:=fun i hi=>hK1 i (by omega)
 refine Fn.introL [.cell 4 31, .tmp 5] Tryd.func16 rfl rfl (by decide) (by simp [Tryd.ntmps16]) ?_;rw [Tryd.ntmps16]
 repeat' (first|omega|(try apply yaa);simp only [go_sem,sevalprocAttr]|apply yad<;>(intro h_;(try simp only [h_]);revert h_)|apply yac|apply yab|apply gspI|apply And.intro|with_reducible intro h_|trivial|simp only [go_sem,la2];omega)
 refine ⟨yaf.fn rfl hV ?_⟩
 repeat' (first|omega|(try apply yaa);simp only [go_sem,sevalprocAttr,b0]|apply yad<;>(intro h_;(try simp only [h_]);revert h_)|apply yac|apply yab|apply gspI|apply And.intro|with_reducible intro h_|trivial|simp only [go_sem,la2];omega)
 refine yai.intro (fun n fr H=> ∃k:Nat,k<=s.length/\n=s.length-k/\fr=[(32,I k),(31,I s.length),(30, .sl 1 2 0 s.length),(7, .sl 1 2 0 s.length),(6,I s.length),(5,I 0),(4, .ptr 1 0),(2, .ptr 0 0),(1,roI o)]/\H=rnH s m L (tabK (fun _=> -1) s.length k)) ?_ ?_
 ·refine ⟨_,_,_,?_,0,by omega,rfl,rfl,rfl⟩
  rw [ysr]
  refine Wk.sub ?_ ?_<;>simp only [go_sem,sevalprocAttr]
 rintro n fr H ⟨k,hk,rfl,rfl,rfl⟩
 have kl:=yc8 (fun _=> -1) s.length k
 by_cases hks:k<s.length
 ·have st:=ylx (fun _=> -1) s.length k hks
  repeat' (first|omega|(try apply yaa);simp only [go_sem,sevalprocAttr,kl,Int.toNat_natCast,st]|apply yad<;>(intro h_;(try simp only [h_]);revert h_)|apply yac|apply yab|apply gspI|apply And.intro|with_reducible intro h_|trivial|simp only [go_sem,la2];omega)
  refine ⟨_,_,_,?_,?_,⟨k+1,by omega,rfl,rfl,rfl⟩⟩
  ·omega
  ·refine Wk.sub ?_ ?_<;>simp only [go_sem,sevalprocAttr]
 obtain rfl:k=s.length:=by omega
 rw [yja,show (List.range s.length).map (fun _=>(-1:Int))=nuL o s.length 0 from rfl]
 clear kl hk hks
 have nl0:=ykc o s.length 0
 repeat' (first|omega|(try apply yaa);simp only [go_sem,sevalprocAttr,nl0]|apply yad<;>(intro h_;(try simp only [h_]);revert h_)|apply yac|apply yab|apply gspI|apply And.intro|with_reducible intro h_|trivial|simp only [go_sem,la2];omega)
 refine yai.intro (fun n fr H=> ∃k:Nat,k<=K0/\n=o.length-k/\fr=[(41,I k),(40,I o.length),(39,roI o),(7, .sl 1 2 0 s.length),(6,I s.length),(5,I 0),(4, .ptr 1 0),(2, .ptr 0 0),(1,roI o)]/\H=rnH s m L (nuL o s.length k)) ?_ ?_
 ·refine ⟨_,_,_,?_,0,by omega,rfl,rfl,rfl⟩
  refine Wk.sub ?_ ?_<;>simp only [go_sem,sevalprocAttr]
 rintro n fr H ⟨k,hk,rfl,rfl,rfl⟩
 have nl:=ykc o s.length k
 by_cases hk0:k<K0
 ·have hok:=hK k hk0
  simp only [nuB,Bool.or_eq_false_iff] at hok
  obtain ⟨c1,c2,c3⟩:=hok
  have d1:=of_decide_eq_false c1
  have d2:=of_decide_eq_false c2
  have d3:=of_decide_eq_false c3
  have st:(nuL o s.length k).set (o.getD k 0).toNat k=nuL o s.length (k+1):=rfl
  repeat' (first|omega|(try apply yaa);simp only [go_sem,sevalprocAttr,c1,c2,c3,nl,Int.toNat_natCast,st]|apply yad<;>(intro h_;(try simp only [h_]);revert h_)|apply yac|apply yab|apply gspI|apply And.intro|with_reducible intro h_|trivial|simp only [go_sem,la2];omega)
  refine ⟨_,_,_,?_,?_,⟨k+1,by omega,rfl,rfl,rfl⟩⟩
  ·omega
  ·refine Wk.sub ?_ ?_<;>simp only [go_sem,sevalprocAttr]
 obtain rfl:k=K0:=by omega
 subst hK0
 have e4:(4*(s.length:Int)).toNat=4*s.length:=by omega
 have hor:=yzw hl hK1
 obtain ⟨hn1,hn2⟩:=yic o s.length s.length hK1
 have ob: ∀i,i<s.length->0<=o.getD i 0/\o.getD i 0<s.length:=fun i hi=>by
  have:=hK1 i hi
  simp only [nuB,Bool.or_eq_false_iff,decide_eq_false_iff_not] at this
  omega
 have nb: ∀c,c<s.length->0<=(nuL o s.length s.length).getD c 0/\(nuL o s.length s.length).getD c 0<s.length:=fun c hc=>by
  have h1:=hor.on c hc
  have h2:=hn2 _ (hor.nl c hc)
  try dsimp only at h1
  rw [h1] at h2
  have h3:=hor.nl c hc
  try dsimp only at h3
  omega
 have hml:=v1.len
 obtain ⟨fs,hfs⟩: ∃fs:Nat->Int,(fun i=>s.getD (o.getD i 0).toNat 0)=fs:=⟨_,rfl⟩
 obtain ⟨fm,hfm⟩: ∃fm:Nat->Int,(fun y=>(rnF (fun c=>((nuL o s.length s.length).getD c 0).toNat) (m.getD (rnF (fun i=>(o.getD i 0).toNat) y) 0).toNat:Int))=fm:=⟨_,rfl⟩
 have es:rnS s (fun i=>(o.getD i 0).toNat) s.length=tabK fs s.length s.length:=by rw [yja,←hfs];rfl
 have em:rnM m (fun i=>(o.getD i 0).toNat) (fun c=>((nuL o s.length s.length).getD c 0).toNat) s.length=tabK fm (4*s.length) (4*s.length):=by rw [yja,←hfm];rfl
 rw [es,em]
 have fsg: ∀i,fs i=s.getD (o.getD i 0).toNat 0:=fun i=>by rw [←hfs]
 have fmg: ∀i x,i<s.length->x<4->fm (4*i+x)=4*(nuL o s.length s.length).getD ((m.getD (4*(o.getD i 0).toNat+x) 0).toNat/4) 0+(m.getD (4*(o.getD i 0).toNat+x) 0)% 4:=fun i x hi hx=>by
  have b1:=ob i hi
  have b2:=v1.prd.ok.2 (4*(o.getD i 0).toNat+x) (by omega)
  have b3:=nb ((m.getD (4*(o.getD i 0).toNat+x) 0).toNat/4) (by omega)
  rw [←hfm]
  unfold rnF
  dsimp only
  rw [show (4*i+x)/4=i by omega,show (4*i+x)% 4=x by omega]
  omega
 clear hfs hfm es em
 repeat' (first|omega|(first|apply yaa|(refine yae.intro (id:=19) yhc yhd (by decide+kernel) mixed ?_)|(refine yae.intro (id:=23) yhe [[],[],[0,1],[0,1,2],[0,1,2],[0,1,2,3,4],[0,1,2],[0,1,2],[],[]] (by decide+kernel) mixed ?_)|(refine yae.intro (id:=28) yhf yhg (by decide+kernel) mixed ?_)|skip);simp only [go_sem,sevalprocAttr,nl,Int.toNat_natCast,e4,↓reduceIte,reduceCtorEq,yhc,yhd,yhe,yhf,yhg]|apply yad<;>(intro h_;(try simp only [h_]);revert h_)|apply yac|apply yab|apply gspI|apply And.intro|with_reducible intro h_|trivial|simp only [go_sem,la2];omega)
 generalize hNU:nuL o s.length s.length=NU at*
 refine yai.intro (fun n fr H=> ∃i:Nat,i<=s.length/\n=s.length-i/\fr=[(76,I i),(75,I s.length),(74,roI o),(11, .ptr 11 0),(7, .sl 1 2 0 s.length),(6,I s.length),(5,I 0),(4, .ptr 1 0),(2, .ptr 0 0),(1,roI o)]/\
  H=(11, .cells 31 (.lst [.sl 1 4 0 s.length, .sl 1 7 0 (4*s.length),I L]))::(7, .cells 3 (.ints (tabK fm (4*s.length) (4*i))))::(4, .cells 3 (.ints (tabK fs s.length i)))::rnH s m L NU) ?_ ?_
 ·refine ⟨_,_,_,?_,0,by omega,rfl,rfl,rfl⟩
  rw [Nat.mul_zero,ysr,ysr]
  refine Wk.sub ?_ ?_<;>(simp only [go_sem,sevalprocAttr,hl])
 rintro n fr H ⟨i,hi,rfl,rfl,rfl⟩
 have sl:=yc8 fs s.length i
 by_cases his:i<s.length
 ·have b1:=ob i his
  have st:=ylx fs s.length i his
  rw [fsg] at st
  repeat' (first|omega|(first|apply yaa|(refine yae.intro (id:=19) yhc yhd (by decide+kernel) mixed ?_)|(refine yae.intro (id:=23) yhe [[],[],[0,1],[0,1,2],[0,1,2],[0,1,2,3,4],[0,1,2],[0,1,2],[],[]] (by decide+kernel) mixed ?_)|(refine yae.intro (id:=28) yhf yhg (by decide+kernel) mixed ?_)|skip);simp only [go_sem,sevalprocAttr,sl,Int.toNat_natCast,st,↓reduceIte,reduceCtorEq,yhc,yhd,yhe,yhf,yhg]|apply yad<;>(intro h_;(try simp only [h_]);revert h_)|apply yac|apply yab|apply gspI|apply And.intro|with_reducible intro h_|trivial|simp only [go_sem,la2];omega)
  refine yai.intro (fun n fr H=> ∃x:Nat,x<=4/\n=4-x/\fr=[(90,I x),(13,I (o.getD i 0)),(12,I i),(76,I i),(75,I s.length),(74,roI o),(11, .ptr 11 0),(7, .sl 1 2 0 s.length),(6,I s.length),(5,I 0),(4, .ptr 1 0),(2, .ptr 0 0),(1,roI o)]/\
   H=(11, .cells 31 (.lst [.sl 1 4 0 s.length, .sl 1 7 0 (4*s.length),I L]))::(7, .cells 3 (.ints (tabK fm (4*s.length) (4*i+x))))::(4, .cells 3 (.ints (tabK fs s.length (i+1))))::rnH s m L NU) ?_ ?_
  ·refine ⟨_,_,_,?_,0,by omega,rfl,rfl,rfl⟩
   refine Wk.sub ?_ ?_<;>simp only [go_sem,sevalprocAttr]
  rintro n fr H ⟨x,hx,rfl,rfl,rfl⟩
  have ml:=yc8 fm (4*s.length) (4*i+x)
  by_cases hx4:x<4
  ·have b2:=v1.prd.ok.2 (4*(o.getD i 0).toNat+x) (by omega)
   have b3:=nb ((m.getD (4*(o.getD i 0).toNat+x) 0).toNat/4) (by omega)
   have st2:=ylx fm (4*s.length) (4*i+x) (by omega)
   rw [fmg i x his hx4] at st2
   have f1:(4*o.getD i 0+(x:Int)).toNat=4*(o.getD i 0).toNat+x:=by omega
   have f3:(4*(i:Int)+(x:Int)).toNat=4*i+x:=by omega
   have f6:=y40 (b:=4) b2.1
   have f5:=ynm (b:=4) b2.1
   obtain ⟨q,hq⟩: ∃q:Nat,(m.getD (4*(o.getD i 0).toNat+x) 0).toNat/4=q:=⟨_,rfl⟩
   have f7:m.getD (4*(o.getD i 0).toNat+x) 0/4=(q:Int):=by omega
   rw [f7] at f5
   rw [hq] at b3 st2
   have nuq:=nl
   obtain ⟨M,hM⟩: ∃M,m.getD (4*(o.getD i 0).toNat+x) 0=M:=⟨_,rfl⟩
   rw [hM] at b2 f5 f6 f7 st2
   repeat' (first|omega|(first|apply yaa|(refine yae.intro (id:=19) yhc yhd (by decide+kernel) mixed ?_)|(refine yae.intro (id:=23) yhe [[],[],[0,1],[0,1,2],[0,1,2],[0,1,2,3,4],[0,1,2],[0,1,2],[],[]] (by decide+kernel) mixed ?_)|(refine yae.intro (id:=28) yhf yhg (by decide+kernel) mixed ?_)|skip);simp only [go_sem,sevalprocAttr,ml,Int.toNat_natCast,f1,f3,hM,f5,f6,st2,↓reduceIte,reduceCtorEq,yhc,yhd,yhe,yhf,yhg]|apply yad<;>(intro h_;(try simp only [h_]);revert h_)|apply yac|apply yab|apply gspI|apply And.intro|with_reducible intro h_|trivial|simp only [go_sem,la2];omega)
   refine ⟨_,_,_,?_,?_,⟨x+1,by omega,rfl,rfl,rfl⟩⟩
   ·omega
   ·rw [show 4*i+(x+1)=4*i+x+1 by omega]
    refine Wk.sub ?_ ?_<;>simp only [go_sem,sevalprocAttr]
  ·obtain rfl:x=4:=by omega
   repeat' (first|omega|(try apply yaa);simp only [go_sem,sevalprocAttr]|apply yad<;>(intro h_;(try simp only [h_]);revert h_)|apply yac|apply yab|apply gspI|apply And.intro|with_reducible intro h_|trivial|simp only [go_sem,la2];omega)
   refine ⟨_,_,_,?_,?_,⟨i+1,by omega,rfl,rfl,rfl⟩⟩
   ·omega
   ·rw [show 4*(i+1)=4*i+4 by omega]
    refine Wk.sub ?_ ?_<;>simp only [go_sem,sevalprocAttr]
 ·obtain rfl:i=s.length:=by omega
  repeat' (first|omega|(try apply yaa);simp only [go_sem,sevalprocAttr,yc8]|apply yad<;>(intro h_;(try simp only [h_]);revert h_)|apply yac|apply yab|apply gspI|apply And.intro|with_reducible intro h_|trivial|simp only [go_sem,la2];omega)
  all_goals exact LeA.of (by rw [List.take_of_length_le (by rw [yc8];omega),List.take_of_length_le (by rw [yc8];omega)])
end Go.Proofs.YtphjphpmfflfpaaDoor
namespace Go.Proofs.YtphjphpmfflfpaaDoor
set_option linter.unusedVariables false
set_option linter.unusedSimpArgs false
theorem yss {o:List Int} {n:Nat} (h:PrmL n o) (hl:o.length=n): ∀k,k<=n-> ∀i,i<k->nuB o n i=false
 |0,_,i,hi=>by omega
 |k+1,hk,i,hi=>by
  have ih:=yss h hl k (by omega)
  by_cases e:i=k
  ·subst e
   have hm: ∀j,j<n->0<=o.getD j 0/\o.getD j 0<n:=fun j hj=>h.rg _ (by rw [List.getD_eq_getElem?_getD,List.getElem?_eq_getElem (show j<o.length by omega)];exact List.getElem_mem _)
   have hi':=hm i (by omega)
   obtain ⟨h1,_⟩:=yic o n i ih
   simp only [nuB,Bool.or_eq_false_iff,decide_eq_false_iff_not]
   refine ⟨by omega,by omega,?_⟩
   rcases h1 (o.getD i 0).toNat (by omega) with h2|⟨j,h2,_,h4⟩
   ·omega
   ·exfalso
    have hj':=hm j (by omega)
    have e2:o.getD j 0=o.getD i 0:=by omega
    rw [List.getD_eq_getElem?_getD,List.getD_eq_getElem?_getD,List.getElem?_eq_getElem (show j<o.length by omega),List.getElem?_eq_getElem (show i<o.length by omega)] at e2
    have:=(List.nodup_iff_pairwise_ne.1 h.nd)
    exact (List.pairwise_iff_getElem.1 this) j i (by omega) (by omega) h2 e2
  ·exact ih i (by omega)
end Go.Proofs.YtphjphpmfflfpaaDoor
set_option linter.unusedSimpArgs false
set_option linter.unusedVariables false
namespace Go.Proofs.YtphjphpmfflfpaaDoor
open Go Go.RowKit
set_option maxRecDepth 100000
set_option maxHeartbeats 4000000
def yzx:List (List Nat):=[[17,20,21,22,23],[16,20,21,22,23],[20,21,22,23],[20,21,22,23],[16,17,18,19,21],[16,17,18,19,20],[16,17,18,19],[16,17,18,19],[]]
theorem yst:eq2 Tryd.prog 56=true:=by decide+kernel
theorem y8d (p:List (Int×Int)) (hl:p.length<=1000000):Fn Tryd.prog 35 [.ro 2 p.length (.lst (tmC p)), .ro 2 p.length (.lst (tmC p))] (.bool true):=by
 have hlen:=ycl p
 have b0:((p.length:Int)!=p.length)=false:=by simp
 refine Fn.intro [.tmp 4] Tryd.func35 rfl rfl (by decide) (by simp [Tryd.ntmps35]) ?_;rw [Tryd.ntmps35]
 repeat' (first|omega|(try apply yaa);simp only [go_sem,sevalprocAttr,b0]|apply yad<;>(intro h_;(try simp only [h_]);revert h_)|apply yac|apply yab|apply gspI|apply And.intro|with_reducible intro h_|trivial|simp only [go_sem,la2];omega)
 refine yai.intro (fun n fr H=> ∃k:Nat,k<=p.length/\n=p.length-k/\fr=[(13,I k),(12,I p.length),(1, .ro 2 p.length (.lst (tmC p))),(0, .ro 2 p.length (.lst (tmC p)))]/\H=[]) ?_ ?_
 ·refine ⟨_,_,_,?_,0,by omega,rfl,rfl,rfl⟩
  refine Wk.sub ?_ ?_<;>(simp only [go_sem,sevalprocAttr,ya5])
 rintro n fr H ⟨k,hk,rfl,rfl,rfl⟩
 by_cases hkl:k<p.length
 ·have g0:=yeg p k hkl
  have g1:=yh4 p k hkl
  have b1:((p.getD k (0,0)).1==(p.getD k (0,0)).1)=true:=by simp
  have b2:((p.getD k (0,0)).2==(p.getD k (0,0)).2)=true:=by simp
  repeat' (first|omega|(first|apply yaa|(refine yae.intro (id:=6) yzx [[],[0],[],[],[0,1,2,3],[0,1,2,3,4],[0,1,2,3],[0,1,2,3],[]] (by decide+kernel) mixed ?_)|skip);simp only [go_sem,sevalprocAttr,g0,g1,hlen,b1,b2,yst,↓reduceIte,reduceCtorEq,yzx]|apply yad<;>(intro h_;(try simp only [h_]);revert h_)|apply yac|apply yab|apply gspI|apply And.intro|with_reducible intro h_|trivial|simp only [go_sem,la2];omega)
  all_goals (first|exact yst|skip)
  refine ⟨_,_,_,?_,?_,⟨k+1,by omega,rfl,rfl,rfl⟩⟩
  ·omega
  ·refine Wk.sub ?_ ?_<;>(simp only [go_sem,sevalprocAttr,ya5])
 ·obtain rfl:k=p.length:=by omega
  repeat' (first|omega|(try apply yaa);simp only [go_sem,sevalprocAttr]|apply yad<;>(intro h_;(try simp only [h_]);revert h_)|apply yac|apply yab|apply gspI|apply And.intro|with_reducible intro h_|trivial|simp only [go_sem,la2];omega)
theorem y2s (p:List (Int×Int)) (hl:p.length<=1000000):Fn Tryd.prog 12 [plA false p,plA false p] (.bool true):=by
 have hS:=y8d p hl
 refine Fn.intro [.tmp 4] Tryd.func12 rfl rfl (by decide) (by simp [Tryd.ntmps12]) ?_;rw [Tryd.ntmps12]
 repeat' (first|omega|(try apply yaa);simp only [go_sem,sevalprocAttr,ya5]|apply yad<;>(intro h_;(try simp only [h_]);revert h_)|apply yac|apply yab|apply gspI|apply And.intro|with_reducible intro h_|trivial|simp only [go_sem,la2];omega)
 refine ⟨yaf.fn rfl hS ?_⟩
 repeat' (first|omega|(try apply yaa);simp only [go_sem,sevalprocAttr]|apply yad<;>(intro h_;(try simp only [h_]);revert h_)|apply yac|apply yab|apply gspI|apply And.intro|with_reducible intro h_|trivial|simp only [go_sem,la2];omega)
end Go.Proofs.YtphjphpmfflfpaaDoor
namespace Go.Proofs.YtphjphpmfflfpaaDoor
open Go Go.RowKit
set_option maxRecDepth 100000
set_option maxHeartbeats 8000000
set_option linter.unusedVariables false
set_option linter.unusedSimpArgs false
theorem yoh (s m:List Int) (L:Int) (a b:List Int):Fn Tryd.prog 4 [dgA s m L,roI a,roI b] (.bool true):=by
 have hA:=yv9
 have hF:=y6n s m L
 cases hf:ftB s m L with
 |false=>
  rw [hf] at hF
  refine Fn.intro [.tmp 6] Tryd.func4 rfl rfl (by decide) (by simp [Tryd.ntmps4]) ?_;rw [Tryd.ntmps4]
  repeat' (first|omega|(try apply yaa);simp only [go_sem,sevalprocAttr,hA]|(refine ⟨yaf.fn (r:=?_) rfl ?_ ?_⟩;rotate_left;assumption)|(refine ⟨ya4.fn (r:=?_) rfl ?_ ?_⟩;rotate_left;assumption)|apply yad<;>(intro h_;(try simp only [h_]);revert h_)|apply yac|apply yab|apply gspI|apply And.intro|with_reducible intro h_|trivial|simp only [go_sem,la2];omega)
 |true=>
 rw [hf] at hF
 obtain ⟨hs,l,rfl,hl,hv,hne⟩:=y8b hf
 by_cases ha:20<a.length
 ·have b1:decide ((20:Int)<a.length)=true:=by rw [decide_eq_true_iff];omega
  refine Fn.intro [.tmp 6] Tryd.func4 rfl rfl (by decide) (by simp [Tryd.ntmps4]) ?_;rw [Tryd.ntmps4]
  repeat' (first|omega|(try apply yaa);simp only [go_sem,sevalprocAttr,b1]|(refine ⟨yaf.fn (r:=?_) rfl ?_ ?_⟩;rotate_left;assumption)|(refine ⟨ya4.fn (r:=?_) rfl ?_ ?_⟩;rotate_left;assumption)|apply yad<;>(intro h_;(try simp only [h_]);revert h_)|apply yac|apply yab|apply gspI|apply And.intro|with_reducible intro h_|trivial|simp only [go_sem,la2];omega)
 have b1:decide ((20:Int)<a.length)=false:=by rw [decide_eq_false_iff_not];omega
 by_cases hb:20<b.length
 ·have b2:decide ((20:Int)<b.length)=true:=by rw [decide_eq_true_iff];omega
  refine Fn.intro [.tmp 6] Tryd.func4 rfl rfl (by decide) (by simp [Tryd.ntmps4]) ?_;rw [Tryd.ntmps4]
  repeat' (first|omega|(try apply yaa);simp only [go_sem,sevalprocAttr,b1,b2]|(refine ⟨yaf.fn (r:=?_) rfl ?_ ?_⟩;rotate_left;assumption)|(refine ⟨ya4.fn (r:=?_) rfl ?_ ?_⟩;rotate_left;assumption)|apply yad<;>(intro h_;(try simp only [h_]);revert h_)|apply yac|apply yab|apply gspI|apply And.intro|with_reducible intro h_|trivial|simp only [go_sem,la2];omega)
 have b2:decide ((20:Int)<b.length)=false:=by rw [decide_eq_false_iff_not];omega
 have hPa:=ynd a s.length (by omega) (by omega)
 have hPb:=ynd b s.length (by omega) (by omega)
 cases hpa:ybm a s.length with
 |false=>
  rw [hpa] at hPa
  refine Fn.intro [.tmp 6] Tryd.func4 rfl rfl (by decide) (by simp [Tryd.ntmps4]) ?_;rw [Tryd.ntmps4]
  repeat' (first|omega|(try apply yaa);simp only [go_sem,sevalprocAttr,b1,b2]|(refine ⟨yaf.fn (r:=?_) rfl ?_ ?_⟩;rotate_left;assumption)|(refine ⟨ya4.fn (r:=?_) rfl ?_ ?_⟩;rotate_left;assumption)|apply yad<;>(intro h_;(try simp only [h_]);revert h_)|apply yac|apply yab|apply gspI|apply And.intro|with_reducible intro h_|trivial|simp only [go_sem,la2];omega)
 |true=>
 rw [hpa] at hPa
 cases hpb:ybm b s.length with
 |false=>
  rw [hpb] at hPb
  refine Fn.intro [.tmp 6] Tryd.func4 rfl rfl (by decide) (by simp [Tryd.ntmps4]) ?_;rw [Tryd.ntmps4]
  repeat' (first|omega|(try apply yaa);simp only [go_sem,sevalprocAttr,b1,b2]|(refine ⟨yaf.fn (r:=?_) rfl ?_ ?_⟩;rotate_left;assumption)|(refine ⟨ya4.fn (r:=?_) rfl ?_ ?_⟩;rotate_left;assumption)|apply yad<;>(intro h_;(try simp only [h_]);revert h_)|apply yac|apply yab|apply gspI|apply And.intro|with_reducible intro h_|trivial|simp only [go_sem,la2];omega)
 |true=>
 rw [hpb] at hPb
 have v1:=yb2 hv
 have hp:=v1.prd
 obtain ⟨pra,ala⟩:=yd2 hpa
 obtain ⟨prb,alb⟩:=yd2 hpb
 have hWa:=ypg s m l a hp.ok (by omega) (by omega) pra.rg
 have hWb:=ypg s m l b hp.ok (by omega) (by omega) prb.rg
 rw [ywd hp.ok hp.inv pra a.length (Nat.le_refl _)] at hWa
 rw [ywd hp.ok hp.inv prb b.length (Nat.le_refl _)] at hWb
 have hol:=yzw ala (yss pra ala s.length (Nat.le_refl _))
 have vW:=y2r hv hol
 have lW:(rnS s (fun i=>(a.getD i 0).toNat) s.length).length=s.length:=by simp [rnS]
 have hR:=yte s m l a hv ala (yss pra ala s.length (Nat.le_refl _))
 have bW:=y8c _ _ l (by rw [lW];exact hs) hl vW (by rw [lW];exact hne)
 rw [lW] at bW
 have eW:brP (rnM m (fun i=>(a.getD i 0).toNat) (fun c=>((nuL a s.length s.length).getD c 0).toNat) s.length) s.length l=brP m s.length l:=by
  unfold brP;rw [show brT (rnM m (fun i=>(a.getD i 0).toNat) (fun c=>((nuL a s.length s.length).getD c 0).toNat) s.length) s.length l 1=brT m s.length l 1 from funext (y9i hv hol l 1)]
 rw [eW] at bW
 have hpm:=pmOk hv
 have hBa:=fun h=>yso s m l a hs (by omega) (by omega) hv hpa hne h
 have hBb:=fun h=>yso s m l b hs (by omega) (by omega) hv hpb hne h
 have hpl:=(ysn hpm hs (show l<=20 by omega)).len fun e he=>by have:=ygm hpm hs (show l<=20 by omega) he;omega
 have qE:=y2s (brP m s.length l) (by omega)
 generalize brP m s.length l=p at*
 generalize (rnS s (fun i=>(a.getD i 0).toNat) s.length)=s' at*
 generalize (rnM m (fun i=>(a.getD i 0).toNat) (fun c=>((nuL a s.length s.length).getD c 0).toNat) s.length)=m' at*
 generalize hwa:wdN m a a.length=wa at*
 generalize hwb:wdN m b b.length=wb at*
 refine Fn.introL [.tmp 6] Tryd.func4 rfl rfl (by decide) (by simp [Tryd.ntmps4]) ?_;rw [Tryd.ntmps4]
 repeat' (first|omega|(try apply yaa);simp only [go_sem,sevalprocAttr,b1,b2]|(refine ⟨yaf.fn (r:=?_) rfl ?_ ?_⟩;rotate_left;assumption)|(refine ⟨ya4.fn (r:=?_) rfl ?_ ?_⟩;rotate_left;assumption)|apply yad<;>(intro h_;(try simp only [h_]);revert h_)|apply yac|apply yab|apply gspI|apply And.intro|with_reducible intro h_|trivial|simp only [go_sem,la2];omega)
 refine yai.intro (fun n' fr H=> ∃j:Nat,j<=2/\(0<j->wa<=14)/\(1<j->wb<=14)/\n'=2-j/\fr=[(52,I j),(51,I (2:Nat)),(50, .sl 1 1 0 2),(3, .ptr 0 0),(2,roI b),(1,roI a)]/\
  H=[(1, .cells 29 (.lst [roI a,roI b])),(0, .cells 31 (.lst [roI s,roI m,I l]))]) ?_ ?_
 ·refine ⟨_,_,_,Wk.sub ?_ ?_,0,by omega,by omega,by omega,rfl,rfl,rfl⟩
  ·simp only [go_sem,sevalprocAttr]
  ·simp only [go_sem,sevalprocAttr]
 rintro n' fr H ⟨j,hj,hja,hjb,rfl,rfl,rfl⟩
 by_cases hj2:j<2
 ·have bj:decide ((j:Int)<(2:Nat))=true:=by rw [decide_eq_true_iff];omega
  rcases (show j=0\/j=1 by omega) with rfl|rfl
  ·repeat' (first|omega|(try apply yaa);simp only [go_sem,sevalprocAttr,bj]|apply yad<;>(intro h_;(try simp only [h_]);revert h_)|apply yac|apply yab|apply gspI|apply And.intro|with_reducible intro h_|trivial|simp only [go_sem,la2];omega)
   refine ⟨yaf.fn rfl hWa ?_⟩
   by_cases hw:14<wa
   ·have bw:decide (14<wa)=true:=by rw [decide_eq_true_iff];exact hw
    repeat' (first|omega|(try apply yaa);simp only [go_sem,sevalprocAttr,bw]|apply yad<;>(intro h_;(try simp only [h_]);revert h_)|apply yac|apply yab|apply gspI|apply And.intro|with_reducible intro h_|trivial|simp only [go_sem,la2];omega)
    all_goals exact LeA.refl _
   ·have bw:decide (14<wa)=false:=by rw [decide_eq_false_iff_not];exact hw
    repeat' (first|omega|(try apply yaa);simp only [go_sem,sevalprocAttr,bw]|apply yad<;>(intro h_;(try simp only [h_]);revert h_)|apply yac|apply yab|apply gspI|apply And.intro|with_reducible intro h_|trivial|simp only [go_sem,la2];omega)
    refine ⟨_,_,_,?_,Wk.sub ?_ ?_,1,by omega,by omega,by omega,rfl,rfl,rfl⟩
    ·omega
    ·(simp only [go_sem,sevalprocAttr])<;>rfl
    ·simp only [go_sem,sevalprocAttr]
  ·repeat' (first|omega|(try apply yaa);simp only [go_sem,sevalprocAttr,bj]|apply yad<;>(intro h_;(try simp only [h_]);revert h_)|apply yac|apply yab|apply gspI|apply And.intro|with_reducible intro h_|trivial|simp only [go_sem,la2];omega)
   refine ⟨yaf.fn rfl hWb ?_⟩
   by_cases hw:14<wb
   ·have bw:decide (14<wb)=true:=by rw [decide_eq_true_iff];exact hw
    repeat' (first|omega|(try apply yaa);simp only [go_sem,sevalprocAttr,bw]|apply yad<;>(intro h_;(try simp only [h_]);revert h_)|apply yac|apply yab|apply gspI|apply And.intro|with_reducible intro h_|trivial|simp only [go_sem,la2];omega)
    all_goals exact LeA.refl _
   ·have bw:decide (14<wb)=false:=by rw [decide_eq_false_iff_not];exact hw
    repeat' (first|omega|(try apply yaa);simp only [go_sem,sevalprocAttr,bw]|apply yad<;>(intro h_;(try simp only [h_]);revert h_)|apply yac|apply yab|apply gspI|apply And.intro|with_reducible intro h_|trivial|simp only [go_sem,la2];omega)
    refine ⟨_,_,_,?_,Wk.sub ?_ ?_,2,by omega,by omega,by omega,rfl,rfl,rfl⟩
    ·omega
    ·(simp only [go_sem,sevalprocAttr])<;>rfl
    ·simp only [go_sem,sevalprocAttr]
 ·obtain rfl:j=2:=by omega
  have ba:=hBa (by have:=hja (by omega);omega)
  have bb:=hBb (by have:=hjb (by omega);omega)
  clear hBa hBb
  have bj:decide (((2:Nat):Int)<(2:Nat))=false:=by decide
  repeat' (first|omega|(try apply yaa);simp only [go_sem,sevalprocAttr,bj]|(refine ⟨yaf.fn (r:=?_) rfl ?_ ?_⟩;rotate_left;assumption)|(refine ⟨ya4.fn (r:=?_) rfl ?_ ?_⟩;rotate_left;assumption)|apply yad<;>(intro h_;(try simp only [h_]);revert h_)|apply yac|apply yab|apply gspI|apply And.intro|with_reducible intro h_|trivial|simp only [go_sem,la2];omega)
  all_goals exact LeA.refl _
end Go.Proofs.YtphjphpmfflfpaaDoor
