/- Layer 17: sweep: the bracket of the crossings, along an order (the walk). -/
import Derived.Test.YtmdjdekgakidhaaDoorZn
namespace Go.Proofs.YtmdjdekgakidhaaDoor
open Go Go.RowKit
set_option maxRecDepth 100000
set_option maxHeartbeats 8000000
set_option linter.unusedVariables false
set_option linter.unusedSimpArgs false
def yat:Tr:= .node [(0, .node [(1, .node [(2, .node [(3, .node [(4, .done)])]),(3, .node [(2, .node [(4, .done)])])]),(3, .node [(1, .node [(2, .node [(4, .done)])])])]),(1, .node [(0, .node [(2, .node [(3, .node [(4, .done)])]),(3, .node [(2, .node [(4, .done)])])]),(2, .node [(0, .node [(3, .node [(4, .done)])])])])]
abbrev yua (m ends:List Int) (c:Nat):Cs:= .lst [I ends.length,roI (gluL m ends c),roI (idxL m ends c),roI (endL m ends c)]
def sprL (cs:List Int) (k:Nat):List Int:=(List.range (2*cs.length)).map fun i=>if i % 2=0/\i/2<k then cs.getD (i/2) 0 else 0
theorem yej (cs:List Int) (k:Nat):(sprL cs k).length=2*cs.length:=by simp [sprL]
theorem y5j (cs:List Int):sprL cs 0=List.replicate (2*cs.length) 0:=by
 apply List.ext_getElem?
 intro i
 by_cases h:i<2*cs.length<;>simp [sprL,h]
theorem ywy (cs:List Int) (k:Nat) (hk:k<cs.length):(sprL cs k).set (2*k) (cs.getD k 0)=sprL cs (k+1):=by
 apply List.ext_getElem?
 intro i
 rw [List.getElem?_set,yej]
 by_cases e:2*k=i
 ·subst e
  rw [if_pos rfl,if_pos (by omega)]
  simp only [sprL,List.getElem?_map,List.getElem?_range (show 2*k<2*cs.length by omega),Option.map_some]
  rw [if_pos (by omega),show 2*k/2=k by omega]
 ·rw [if_neg e]
  by_cases hi:i<2*cs.length
  ·simp only [sprL,List.getElem?_map,List.getElem?_range hi,Option.map_some]
   by_cases h1:i % 2=0/\i/2<k
   ·rw [if_pos h1,if_pos (by omega)]
   ·rw [if_neg h1,if_neg (by omega)]
  ·simp [sprL,hi]
theorem ywz (lo:Int) (cs:List Int) (e:Int):cfL (tmI lo (sprL cs cs.length)) e=pfE lo cs e:=by
 rw [yfl]
 unfold pfE
 by_cases h:lo<=e
 ·rw [if_pos h]
  obtain ⟨j,hj⟩: ∃j:Nat,e=lo+j:=⟨(e-lo).toNat,by omega⟩
  subst hj
  rw [show (lo+(j:Int)-lo).toNat=j by omega,show ((lo+(j:Int)-lo)/2).toNat=j/2 by omega]
  by_cases h1:j<2*cs.length
  ·simp only [sprL,List.getD_eq_getElem?_getD,List.getElem?_map,List.getElem?_range h1,Option.map_some,Option.getD_some]
   by_cases h2:j % 2=0
   ·rw [if_pos ⟨h2,by omega⟩,if_pos (by omega)]
   ·rw [if_neg fun g=>h2 g.1,if_neg (by omega)]
  ·rw [ybf (by rw [yej];omega)]
   split
   ·rw [ybf (by omega)]
   ·rfl
 ·rw [if_neg h,if_neg fun g=>h g.1]
theorem y3o (HF:Hp) (sd:List PE):(gmD 0 sd).map (fun q=>(q.1,q.2.1,frzV HF 4 q.2.2))=gmD 0 sd:=by
 conv=>rhs;rw [←List.map_id (gmD 0 sd)]
 exact List.map_congr_left fun q hq=>by obtain ⟨k,g,_,rfl⟩:=ybr _ _ _ hq;rfl
theorem yzs (HF:Hp) (sd:List PE):(∀q∈gmD 0 sd,frzP HF 4 q.2.2)=True:=by
 rw [eq_iff_iff,iff_true]
 intro q hq
 obtain ⟨k,g,_,rfl⟩:=ybr _ _ _ hq
 simp only [frzP,List.forall_mem_cons]
 exact ⟨trivial,trivial,by simp⟩
theorem yiy (H:Hp) (sd:List PE):(gmD 0 sd).all (fun q=>s3 H q.2.2)=true:=List.all_eq_true.2 fun q hq=>by obtain ⟨k,g,_,rfl⟩:=ybr _ _ _ hq;rfl
theorem yw0 (sd:List PE): ∀q∈gmD 0 sd,q.2.1<sd.length:=fun q hq=>by
 obtain ⟨k,g,hk,rfl⟩:=ybr _ _ _ hq
 have:=(List.getElem?_eq_some_iff.1 hk).1
 simp only;omega
theorem yzt {sd:List PE} (hk:ybd sd) {i:Nat} {g:PE} (h:sd[i]?=some g):ybq (gmD 0 sd) g.key=some (g.key,i,tpA g.lo g.cs):=by
 have key: ∀(G:List PE) (i j:Nat) (g:PE),ybd G->G[j]?=some g->ybq (gmD i G) g.key=some (g.key,i+j,tpA g.lo g.cs):=by
  intro G
  induction G with
  |nil=>intro i j g _ h;simp at h
  |cons a G ih=>
   intro i j g hk h
   match j,h with
   |0,h=>
    simp only [List.getElem?_cons_zero,Option.some.injEq] at h
    subst h
    simp [ybq,gmD]
   |j+1,h=>
    simp only [List.getElem?_cons_succ] at h
    unfold ybd at hk
    rw [List.map_cons,List.nodup_cons] at hk
    have hne:a.key≠g.key:=fun e=>hk.1 (e▸List.mem_map.2 ⟨g,List.mem_of_getElem? h,rfl⟩)
    have:=ih (i+1) j g hk.2 h
    unfold ybq at this⊢
    simp only [gmD,List.find?_cons]
    rw [show decide (a.key=g.key)=false by simpa using hne,this]
    simp only [show i+1+j=i+(j+1) by omega]
 have:=key sd 0 i g hk h
 rwa [Nat.zero_add] at this
theorem yn8 {sd:List PE} {i:Nat} {g:PE} (h:sd[i]?=some g):List.find? (fun q=>q.2.1==i) (gmD 0 sd)=some (g.key,i,tpA g.lo g.cs):=by
 have key: ∀(G:List PE) (a j:Nat) (g:PE),G[j]?=some g->List.find? (fun q=>q.2.1==a+j) (gmD a G)=some (g.key,a+j,tpA g.lo g.cs):=by
  intro G
  induction G with
  |nil=>intro a j g h;simp at h
  |cons b G ih=>
   intro a j g h
   match j,h with
   |0,h=>
    simp only [List.getElem?_cons_zero,Option.some.injEq] at h
    subst h
    simp [gmD]
   |j+1,h=>
    simp only [List.getElem?_cons_succ] at h
    have:=ih (a+1) j g h
    simp only [gmD,List.find?_cons]
    rw [show (a==a+(j+1))=false by simp,show a+(j+1)=a+1+j by omega]
    exact this
 have:=key sd 0 i g h
 rwa [Nat.zero_add] at this
theorem y6s {F A:Fr} (hA: ∀q∈A,fget F q.1=q.2) (hs:A.all (fun q=>s3 okH q.2)=true) (t:Nat):fget A t= .any\/(fget A t=fget F t/\s3 okH (fget A t)=true):=by
 rcases yma hs t with h|h
 ·exact .inl h
 ·rcases fgA hA t with g|g
  ·exact .inr ⟨g,h⟩
  ·exact .inl g
theorem yw1 (i j:Nat) (sd:List PE):(gmD 0 sd).map (fun q=>(q.1,q.2.1,swV i j 4 q.2.2))=gmD 0 sd:=by
 conv=>rhs;rw [←List.map_id (gmD 0 sd)]
 exact List.map_congr_left fun q hq=>by obtain ⟨k,g,_,rfl⟩:=ybr _ _ _ hq;rfl
structure SdB (m:List Int) (n:Nat) (o:List Nat) (k:Nat) (sd:List PE):Prop where
 ok:GOk (plE m o k).length (k:Int) (2+200*(k:Int)) sd
 len:sd.length<=16384
 pos:1<=sd.length
 cc:k<n-> ∀g∈sd,∀b,2^ccN m (plE m o k) (o.getD k 0) (dK g.key) b*mxN g.cs<=4398046511104
 mx: ∀g∈sd,mxN g.cs<=4398046511104
structure MdB (m:List Int) (o:List Nat) (k:Nat) (sd:List PE) (sn:List Nat) (G:List PE):Prop where
 nd:sn.Nodup
 rg: ∀i∈sn,i<sd.length
 ok:GOk (plE m o (k+1)).length ((k:Int)+1) (2+200*(k:Int)+200) G
 len:G.length<=2*sn.length
 mx: ∀x∈G,mxN x.cs<=4398046511104
theorem MdB.cnt {m:List Int} {o:List Nat} {k:Nat} {sd:List PE} {sn:List Nat} {G:List PE} (h:MdB m o k sd sn G):sn.length<=sd.length:=by
 have:=yay h.nd (k:=List.range sd.length) fun i hi=>List.mem_range.2 (h.rg i hi)
 simpa using this
structure Swp (m:List Int) (n:Nat) (o:List Nat) (SD:Nat->List PE->Prop) (MD:Nat->List PE->List Nat->List PE->Prop):Prop where
 init:SD 0 [⟨pS [],0,[1]⟩]
 sb: ∀{k sd},k<=n->SD k sd->SdB m n o k sd
 mi: ∀{k sd},SD k sd->MD k sd [] []
 mb: ∀{k sd sn G},k<n->SD k sd->MD k sd sn G->MdB m o k sd sn G
 st: ∀{k sd sn G i g},k<n->SD k sd->MD k sd sn G->sd[i]?=some g->i∉sn->MD k sd (sn++[i]) (exG m (o.getD k 0) (spN (o.drop (k+1))) (plE m o k) G g)
 al: ∀{k sd sn G},k<n->SD k sd->MD k sd sn G->(∀i,i<sd.length->i∈sn)->SD (k+1) G
 wd: ∀k,k<=n->(plE m o k).length<=56
theorem y3p {m:List Int} {n:Nat} {o:List Nat} {sd:List PE} (h:SdB m n o n sd) (he:plE m o n=[]): ∃g:PE,sd=[g]/\g.key=pS []:=by
 have hk: ∀g∈sd,g.key=pS []:=fun g hg=>by
  obtain ⟨h1,h2⟩:=h.ok.ok g hg
  rw [he] at h2
  rw [h1,List.length_eq_zero_iff.1 h2.len]
 match sd,h,hk with
 |[],h,_=>have:=h.pos;simp at this
 |[g],h,hk=>exact ⟨g,rfl,hk g (List.mem_cons_self ..)⟩
 |g::g'::r,h,hk=>
  have h1:=h.ok.nd
  unfold ybd at h1
  simp only [List.map_cons,List.nodup_cons,List.mem_cons,not_or] at h1
  exact absurd ((hk g (List.mem_cons_self ..)).trans (hk g' (List.mem_cons_of_mem _ (List.mem_cons_self ..))).symm) h1.1.1
theorem yn9 (s m:List Int) (L:Int) (hp:PmOk m s.length) {o:List Nat} (hn:o.Nodup) (hl:o.length=s.length) (hr: ∀c∈o,c<s.length) (hn64:s.length<=64) (hn0:0<s.length) {SD:Nat->List PE->Prop} {MD:Nat->List PE->List Nat->List PE->Prop} (hW:Swp m s.length o SD MD)
  {R:List (Int×Int)} (hR: ∀g,SD s.length [g]->tmI g.lo (sprL g.cs g.cs.length)=R):Fn Tryd.prog 14 [dgA s m L,roI (o.map (Nat.cast:Nat->Int))] (.tup [plA false R, .bool true]):=by
 have hog: ∀k,(o.map (Nat.cast:Nat->Int)).getD k 0=((o.getD k 0:Nat):Int):=fun k=>by
  simp only [List.getD_eq_getElem?_getD,List.getElem?_map]
  cases o[k]?<;>rfl
 have hol:(o.map (Nat.cast:Nat->Int)).length=s.length:=by rw [List.length_map,hl]
 obtain ⟨om,hom⟩: ∃om,o.map (Nat.cast:Nat->Int)=om:=⟨_,rfl⟩
 rw [hom] at hog hol⊢
 refine Fn.introL [.cell 4 28, .tmp 5] Tryd.func14 rfl rfl (by decide) (by simp [Tryd.ntmps14]) ?_;rw [Tryd.ntmps14]
 repeat' (first|omega|(try apply yaa);simp only [go_sem,sevalprocAttr]|apply yae<;>(intro h_;(try simp only [h_]);revert h_)|apply yad|apply yab|apply gspI|apply And.intro|with_reducible intro h_|trivial|simp only [go_sem,la2];omega)
 refine SpL.insert (id:=2) (ob:= .gmap 66 1 [(⟨#[]⟩,0, .agg [I 0, .sl 1 3 0 1])]) rfl rfl (by simp only [go_sem,sevalprocAttr];rfl) ?_
 repeat' (first|omega|(try apply yaa);simp only [go_sem,sevalprocAttr]|apply yae<;>(intro h_;(try simp only [h_]);revert h_)|apply yad|apply yab|apply gspI|apply And.intro|with_reducible intro h_|trivial|simp only [go_sem,la2];omega)
 refine yak.intro (fun n' fr H=> ∃(k:Nat) (sd:List PE),k<=s.length/\SD k sd/\n'=s.length-k/\fr=[(28,I k),(27,I s.length),(26,roI om),(7,roI (plE m o k)),(6, .mp 2),(4, .ptr 1 0),(2, .rp (.lst [roI s,roI m,I L]) 0),(1,roI om)]/\
  H=[(2, .gmap 66 sd.length (gmD 0 sd)),(1, .cells 28 (.lst [.bool false, .nils])),(1000000, .gone)]) ?_ ?_
 ·refine ⟨_,_,_,?_,0,[⟨pS [],0,[1]⟩],by omega,hW.init,rfl,rfl,rfl⟩
  refine (Wk.frz [0,3] ?_ ?_ rfl rfl).trans ((Wk.sub (fr':=[(28,I (0:Nat)),(27,I s.length),(26,roI om),(7, .nils),(6, .mp 2),(4, .ptr 1 0),(2, .rp (.lst [roI s,roI m,I L]) 0),(1,roI om)]) (H':=[(2, .gmap 66 1 (gmD 0 [⟨pS [],0,[1]⟩])),(1, .cells 28 (.lst [.bool false, .nils]))]) ?_ ?_).trans ((Wk.le ?_).trans (Wk.gone 1000000 rfl)))
  ·simp only [go_sem,sevalprocAttr]
  ·simp only [go_sem,sevalprocAttr]
  ·simp only [go_sem,sevalprocAttr,hol]
  ·(simp only [go_sem,sevalprocAttr,gmD])<;>rfl
  ·exact .cons (LeA.refl _) (.cons (LeA.refl _) (.cons (LeA.refl _) (.cons (LeA.nils (by decide) rfl) (LeFr.refl _))))
 rintro n' fr H ⟨k,sd,hk,hS0,rfl,rfl,rfl⟩
 have hS:=hW.sb hk hS0
 by_cases hks:k<s.length
 ·have bk:decide ((k:Int)<s.length)=true:=by simp;omega
  obtain ⟨s1,s2⟩:=ydc hp hn hl hr k (by omega)
  have s3:=(ydc hp hn hl hr (k+1) (by omega)).2
  rw [yby (by omega)] at s1
  have s5:=hW.wd k hk
  have s4:(endL m (plE m o k) (o.getD k 0)).length<=56:=hW.wd (k+1) hks
  have hd:=s1.dj _ (List.mem_cons_self ..)
  have hsew:=y45 s m L (plE m o k) (o.getD k 0) (by omega) hp.ok hd.2 (by omega) (fun i hi=>by
   have:=(s1.he.at hi).1
   unfold InR at this;exact this)
  have hgk:=hog k
  repeat' (first|omega|(first|apply yaa|(refine yac.intro (id:=21) [[67,68],[66,6],[66,6],[67,68],[]] [[],[0],[0],[1,2],[]] (by decide+kernel) mixed ?_)|(refine yac.introT (id:=21) (yat) (by decide+kernel) mixed ?_)|skip);simp only [go_sem,sevalprocAttr,bk,hgk,hol,Int.toNat_natCast,↓reduceIte,reduceCtorEq,yat]|apply yae<;>(intro h_;(try simp only [h_]);revert h_)|apply yad|apply yab|apply gspI|apply And.intro|with_reducible intro h_|trivial|simp only [go_sem,la2];omega)
  refine ⟨yaf.fn rfl hsew ?_⟩
  have hspc:(((k:Int)==(s.length:Int)-1)=true/\spN (o.drop (k+1))=1)\/(((k:Int)==(s.length:Int)-1)=false/\spN (o.drop (k+1))=0):=by
   by_cases hlast:k=s.length-1
   ·left
    refine ⟨by simp;omega,?_⟩
    rw [List.drop_eq_nil_of_le (by omega)];rfl
   ·right
    refine ⟨by simp;omega,?_⟩
    rw [yby (show k+1<o.length by omega)];rfl
  have hg0:=y3o
  have hg1:=yzs
  have hg2:=yiy
  rcases hspc with ⟨b1,hsp⟩|⟨b1,hsp⟩
  all_goals (
   repeat' (first|omega|(first|apply yaa|(refine yac.intro (id:=21) [[67,68],[66,6],[66,6],[67,68],[]] [[],[0],[0],[1,2],[]] (by decide+kernel) mixed ?_)|(refine yac.introT (id:=21) (yat) (by decide+kernel) mixed ?_)|skip);simp only [go_sem,sevalprocAttr,b1,hol,↓reduceIte,reduceCtorEq,yat]|apply yae<;>(intro h_;(try simp only [h_]);revert h_)|apply yad|apply yab|apply gspI|apply And.intro|with_reducible intro h_|trivial|simp only [go_sem,la2];omega)
   refine SpL.range (kt:=9) (et:=65) (mid:=2) rfl rfl (by simp only [go_sem,sevalprocAttr]) rfl rfl ?_
   repeat' (first|omega|(first|apply yaa|(refine yac.intro (id:=21) [[67,68],[66,6],[66,6],[67,68],[]] [[],[0],[0],[1,2],[]] (by decide+kernel) mixed ?_)|(refine yac.introT (id:=21) (yat) (by decide+kernel) mixed ?_)|skip);simp only [go_sem,sevalprocAttr,b1,hol,↓reduceIte,reduceCtorEq,yat]|apply yae<;>(intro h_;(try simp only [h_]);revert h_)|apply yad|apply yab|apply gspI|apply And.intro|with_reducible intro h_|trivial|simp only [go_sem,la2];omega)
   refine yak.intro (fun n' fr H=> ∃(sn:List Nat) (G:List PE),MD k sd sn G/\n'=sd.length-sn.length/\fr=[(45, .ptr 1000004 0),(13, .fn 26 [.ptr 1000003 0]),(12, .ptr 1000003 0),(11,I (spN (o.drop (k+1)))),(10, .rp (yua m (plE m o k) (o.getD k 0)) 0),(28,I k),(27,I s.length),(26,roI om),(4, .ptr 1 0),(2, .rp (.lst [roI s,roI m,I L]) 0),(1,roI om)]/\
    H=swpH sd sn G) ?_ ?_
   ·refine ⟨_,_,_,(Wk.frz [1000001] ?_ ?_ rfl rfl).trans (Wk.sub ?_ ?_),[],[],hW.mi hS0,rfl,rfl,rfl⟩
    ·simp only [go_sem,sevalprocAttr]
    ·simp only [go_sem,sevalprocAttr,hg1]
    ·(simp only [go_sem,sevalprocAttr,hg0,hsp,hol])<;>rfl
    ·refine ⟨by simp only [go_sem,sevalprocAttr,hg0],rfl,by simp only [go_sem,sevalprocAttr,hg0],rfl,by (simp only [go_sem,sevalprocAttr,hg0])<;>rfl,rfl,by simp only [go_sem,sevalprocAttr,hg0],yiy _ sd,by simp only [go_sem,sevalprocAttr,hg0],rfl,by simp only [go_sem,sevalprocAttr,hg0],rfl,trivial⟩
   rintro n' fr H ⟨sn,G,hM0,rfl,rfl,rfl⟩
   have hM:=hW.mb hks hS0 hM0
   repeat' (first|omega|(first|apply yaa|(refine yac.intro (id:=21) [[67,68],[66,6],[66,6],[67,68],[]] [[],[0],[0],[1,2],[]] (by decide+kernel) mixed ?_)|(refine yac.introT (id:=21) (yat) (by decide+kernel) mixed ?_)|skip);simp only [go_sem,sevalprocAttr,hol,↓reduceIte,reduceCtorEq,yat]|apply yae<;>(intro h_;(try simp only [h_]);revert h_)|apply yad|apply yab|apply gspI|apply And.intro|with_reducible intro h_|trivial|simp only [go_sem,la2];omega)
   refine SpL.next (iid:=1000004) (mid:=2) rfl rfl rfl rfl rfl (yw0 sd) (Nat.le_refl _) (fun hall=>?_) (fun q hq hqs=>?_)
   ·have hall2:=hW.al hks hS0 hM0 fun i hi=>by
     have:=hall _ (ywc sd 0 i _ (List.getElem?_eq_getElem hi))
     simpa using this
    have hGl:G.length<=900000:=by
     have h1:=hM.len
     have h2:=hM.cnt
     have h3:=hS.len
     omega
    have hnw:max 1000001 (hnew (rwE 0 G))=1000001:=by have:=ych G 0;omega
    repeat' (first|omega|(first|apply yaa|(refine yac.intro (id:=21) [[67,68],[66,6],[66,6],[67,68],[]] [[],[0],[0],[1,2],[]] (by decide+kernel) mixed ?_)|(refine yac.introT (id:=21) (yat) (by decide+kernel) mixed ?_)|skip);simp only [go_sem,sevalprocAttr,hol,↓reduceIte,reduceCtorEq,yat]|apply yae<;>(intro h_;(try simp only [h_]);revert h_)|apply yad|apply yab|apply gspI|apply And.intro|with_reducible intro h_|trivial|simp only [go_sem,la2];omega)
    refine SpL.range (kt:=9) (et:=65) (mid:=1000002) rfl rfl (by simp only [go_sem,sevalprocAttr]) rfl rfl ?_
    repeat' (first|omega|(first|apply yaa|(refine yac.intro (id:=21) [[67,68],[66,6],[66,6],[67,68],[]] [[],[0],[0],[1,2],[]] (by decide+kernel) mixed ?_)|(refine yac.introT (id:=21) (yat) (by decide+kernel) mixed ?_)|skip);simp only [go_sem,sevalprocAttr,hnw,hol,↓reduceIte,reduceCtorEq,yat]|apply yae<;>(intro h_;(try simp only [h_]);revert h_)|apply yad|apply yab|apply gspI|apply And.intro|with_reducible intro h_|trivial|simp only [go_sem,la2];omega)
    refine yak.intro (fun n' fr H=> ∃sn2:List Nat,sn2.Nodup/\(∀i∈sn2,i<G.length)/\n'=G.length-sn2.length/\fr=[(58, .ptr 1000005 0),(12, .ptr 1000003 0),(10, .rp (yua m (plE m o k) (o.getD k 0)) 0),(28,I k),(27,I s.length),(26,roI om),(4, .ptr 1 0),(2, .rp (.lst [roI s,roI m,I L]) 0),(1,roI om)]/\H=[(1000005, .iter 1000002 G.length sn2 G.length),(1000003, .cells 66 (.lst [.mp 1000002])),(1000002, .gmap 66 G.length (gmD 0 G)),(1, .cells 28 (.lst [.bool false, .nils])),(1000000, .gone)]) ?_ ?_
    ·refine ⟨_,_,_,y3n hGl ?_ ?_ ?_,[],by simp,by simp,rfl,rfl,rfl⟩
     ·simp only [go_sem,sevalprocAttr,ok5,okH,hol]
     ·simp only [go_sem,sevalprocAttr,List.forall_mem_cons,hol]
     ·simp only [go_sem,sevalprocAttr,hol]
    rintro n' fr H ⟨sn2,hnd2,hrg2,rfl,rfl,rfl⟩
    have hsl2:sn2.length<=G.length:=by
     have:=yay hnd2 (k:=List.range G.length) fun i hi=>List.mem_range.2 (hrg2 i hi)
     simpa using this
    repeat' (first|omega|(first|apply yaa|(refine yac.intro (id:=21) [[67,68],[66,6],[66,6],[67,68],[]] [[],[0],[0],[1,2],[]] (by decide+kernel) mixed ?_)|(refine yac.introT (id:=21) (yat) (by decide+kernel) mixed ?_)|skip);simp only [go_sem,sevalprocAttr,hol,↓reduceIte,reduceCtorEq,yat]|apply yae<;>(intro h_;(try simp only [h_]);revert h_)|apply yad|apply yab|apply gspI|apply And.intro|with_reducible intro h_|trivial|simp only [go_sem,la2];omega)
    refine SpL.next (iid:=1000005) (mid:=1000002) rfl rfl rfl rfl rfl (yw0 G) (Nat.le_refl _) (fun hall3=>?_) (fun q hq hqs=>?_)
    ·repeat' (first|omega|(first|apply yaa|(refine yac.intro (id:=21) [[67,68],[66,6],[66,6],[67,68],[]] [[],[0],[0],[1,2],[]] (by decide+kernel) mixed ?_)|(refine yac.introT (id:=21) (yat) (by decide+kernel) mixed ?_)|skip);simp only [go_sem,sevalprocAttr,hol,↓reduceIte,reduceCtorEq,yat]|apply yae<;>(intro h_;(try simp only [h_]);revert h_)|apply yad|apply yab|apply gspI|apply And.intro|with_reducible intro h_|trivial|simp only [go_sem,la2];omega)
     any_goals exact yiy [(1000005, .iter 1000002 G.length sn2 G.length),(1000003, .cells 66 (.lst [.mp 1000002])),(1000002, .gmap 66 G.length (gmD 0 G)),(1, .cells 28 (.lst [.bool false, .nils])),(1000000, .gone)] G
     refine ⟨_,_,_,?_,?_,k+1,G,by omega,hall2,rfl,rfl,rfl⟩
     ·omega
     ·refine Wk.subS (fr1:=[(28,I ((k+1:Nat):Int)),(27,I s.length),(26, .ro 1 s.length (.ints om)),(7,roI (plE m o (k+1))),(6, .mp 1000002),(4, .ptr 1 0),(2, .rp (.lst [roI s,roI m,I L]) 0),(1, .ro 1 s.length (.ints om))]) (H1:=[(1000002, .gmap 66 G.length (gmD 0 G)),(1, .cells 28 (.lst [.bool false, .nils])),(1000000, .gone)]) 1000002 2 ?_ ?_ ?_ ?_ ?_ ?_
      ·rfl
      ·simp only [swH,swO,yw1,List.map_cons,List.map_nil];rfl
      ·rfl
      ·simp only [swH,swO,yw1,List.map_cons,List.map_nil];rfl
      ·(simp only [go_sem,sevalprocAttr,hol])<;>exact ⟨rfl,rfl⟩
      ·exact ⟨rfl,yiy _ G,rfl,rfl,rfl,rfl,trivial⟩
    ·obtain ⟨i,g,hi,rfl⟩:=ybr _ _ _ hq
     simp only [Nat.zero_add] at hqs hq
     have hgf:=yn8 hi
     have hlst:(sn2++[i]).getLast?=some i:=by simp
     have hgm:g∈G:=List.mem_of_getElem? hi
     have hbig:=y5i g.lo g.cs (by have:=hM.ok.rg g hgm;omega) (by
      have h1:=hM.mx g hgm
      omega)
     have hil:=(List.getElem?_eq_some_iff.1 hi).1
     have hnd3:(sn2++[i]).Nodup:=by
      rw [List.nodup_append]
      refine ⟨hnd2,by simp,fun x hx y hy e=>?_⟩
      simp only [List.mem_cons,List.not_mem_nil,or_false] at hy
      exact hqs (hy▸e▸hx)
     have hrg3: ∀j∈sn2++[i],j<G.length:=fun j hj=>by
      rcases List.mem_append.1 hj with hj|hj
      ·exact hrg2 j hj
      ·simp only [List.mem_cons,List.not_mem_nil,or_false] at hj
       subst hj;exact hil
     have hsl3:=yay hnd3 (k:=List.range G.length) fun i hi=>List.mem_range.2 (hrg3 i hi)
     simp only [List.length_append,List.length_cons,List.length_nil,List.length_range] at hsl3
     repeat' (first|omega|(first|apply yaa|(refine yac.intro (id:=21) [[67,68],[66,6],[66,6],[67,68],[]] [[],[0],[0],[1,2],[]] (by decide+kernel) mixed ?_)|(refine yac.introT (id:=21) (yat) (by decide+kernel) mixed ?_)|skip);simp only [go_sem,sevalprocAttr,hol,hgf,hlst,Nat.zero_add,↓reduceIte,reduceCtorEq,yat]|apply yae<;>(intro h_;(try simp only [h_]);revert h_)|apply yad|apply yab|apply gspI|apply And.intro|with_reducible intro h_|trivial|simp only [go_sem,la2];omega)
     refine ⟨yaf.fn rfl hbig ?_⟩
     repeat' (first|omega|(first|apply yaa|(refine yac.intro (id:=21) [[67,68],[66,6],[66,6],[67,68],[]] [[],[0],[0],[1,2],[]] (by decide+kernel) mixed ?_)|(refine yac.introT (id:=21) (yat) (by decide+kernel) mixed ?_)|skip);simp only [go_sem,sevalprocAttr,hol,↓reduceIte,reduceCtorEq,yat]|apply yae<;>(intro h_;(try simp only [h_]);revert h_)|apply yad|apply yab|apply gspI|apply And.intro|with_reducible intro h_|trivial|simp only [go_sem,la2];omega)
     refine ⟨_,_,_,?_,Wk.sub ?_ ?_,sn2++[i],hnd3,hrg3,rfl,rfl,rfl⟩
     ·simp only [List.length_append,List.length_cons,List.length_nil];omega
     ·simp only [go_sem,sevalprocAttr,hol]
     ·exact ⟨rfl,rfl,rfl,rfl,rfl,yiy _ G,rfl,rfl,rfl,rfl,trivial⟩
   ·obtain ⟨i,g,hi,rfl⟩:=ybr _ _ _ hq
    simp only [Nat.zero_add] at hqs hq
    have hgf:=yn8 hi
    have hlst:(sn++[i]).getLast?=some i:=by simp
    have hgm:g∈sd:=List.mem_of_getElem? hi
    have hstep:=hW.st hks hS0 hM0 hi hqs
    have hcnt:=(hW.mb hks hS0 hstep).cnt
    simp only [List.length_append,List.length_cons,List.length_nil] at hcnt
    have hnw:max 1000001 (hnew (rwE 0 G))=1000001:=by
     have:=ych G 0
     have:=hM.len
     have:=hS.len
     omega
    repeat' (first|omega|(first|apply yaa|(refine yac.intro (id:=21) [[67,68],[66,6],[66,6],[67,68],[]] [[],[0],[0],[1,2],[]] (by decide+kernel) mixed ?_)|(refine yac.introT (id:=21) (yat) (by decide+kernel) mixed ?_)|skip);simp only [go_sem,sevalprocAttr,hol,hgf,hlst,hnw,Nat.zero_add,↓reduceIte,reduceCtorEq,yat]|apply yae<;>(intro h_;(try simp only [h_]);revert h_)|apply yad|apply yab|apply gspI|apply And.intro|with_reducible intro h_|trivial|simp only [go_sem,la2];omega)
    refine ⟨yaf.inline (yri (fr1:=[(45, .ptr 1000004 0),(13, .fn 26 [.ptr 1000003 0]),(12, .ptr 1000003 0),(11,I (spN (o.drop (k+1)))),(10, .rp (yua m (plE m o k) (o.getD k 0)) 0),(28,I k),(27,I s.length),(26,roI om),(4, .ptr 1 0),(2, .rp (.lst [roI s,roI m,I L]) 0),(1,roI om)]) hp s1.he hd.2 hd.1 (by omega) (by omega) sd (sn++[i]) G g (spN (o.drop (k+1))) (by cases o.drop (k+1)<;>simp [spN]) (hS.ok.ok g hgm) (hS.ok.pr g hgm) (hS.ok.rg g hgm) (hS.ok.ne g hgm) (by omega) hM.ok (by have:=hM.len;have:=hS.len;omega) (fun x hx=>by have:=hM.mx x hx;omega) (fun b=>?_) ?_ (yk9 (by simp) ?_ ?_ ?_) ?_)⟩
    ·have:=hS.cc hks g hgm b
     omega
    ·rfl
    ·rfl
    ·refine y6s ?_ rfl
     simp only [go_sem,sevalprocAttr,List.forall_mem_cons,hol]
    ·intro i' o' hi'
     rw [hget,if_neg fun e=>by subst e;rw [yf6 (by have:=hM.len;have:=hS.len;omega) (by omega)] at hi';cases hi']
     exact hi'
    ·repeat' (first|omega|(first|apply yaa|(refine yac.intro (id:=21) [[67,68],[66,6],[66,6],[67,68],[]] [[],[0],[0],[1,2],[]] (by decide+kernel) mixed ?_)|(refine yac.introT (id:=21) (yat) (by decide+kernel) mixed ?_)|skip);simp only [go_sem,sevalprocAttr,hol,↓reduceIte,reduceCtorEq,yat]|apply yae<;>(intro h_;(try simp only [h_]);revert h_)|apply yad|apply yab|apply gspI|apply And.intro|with_reducible intro h_|trivial|simp only [go_sem,la2];omega)
     refine ⟨_,_,_,?_,y3l ?_ (fun t ht=>?_) (fun _ _ h=>h),sn++[i],_,hstep,rfl,rfl,rfl⟩
     ·simp only [List.length_append,List.length_cons,List.length_nil];omega
     ·simp only [go_sem,sevalprocAttr,List.forall_mem_cons,hol,okH,Option.isSome_some]
     ·simp only [fget]
      repeat rw [if_neg (by omega)])
 ·obtain rfl:k=s.length:=by omega
  obtain ⟨s1,s2⟩:=ydc hp hn hl hr s.length (by omega)
  have hod:o.drop s.length=[]:=List.drop_eq_nil_of_le (by omega)
  have he0:plE m o s.length=[]:=yg4 hp s1.he fun c hc=>by
   rcases s1.al c hc with g|g
   ·exact g
   ·rw [hod] at g;simp at g
  obtain ⟨g,rfl,hgk⟩:=y3p hS he0
  have hgm:g∈[g]:=List.mem_cons_self ..
  have hrg:=hS.ok.rg g hgm
  have hmx:=hS.mx g hgm
  have hgf:ybq (gmD 0 [g]) ⟨#[]⟩=some (g.key,0,tpA g.lo g.cs):=by
   have:=yzt hS.ok.nd (i:=0) (g:=g) rfl
   rw [hgk] at this⊢
   exact this
  have hOf:Fn Tryd.prog 9 [I g.lo, .ro 1 (2*g.cs.length) (.ints (sprL g.cs g.cs.length))] (plA false (tmI g.lo (sprL g.cs g.cs.length))):=by
   rw [←yej g.cs g.cs.length]
   exact yok g.lo (sprL g.cs g.cs.length) (by rw [yej];omega) (by rw [yej];omega) (fun c hc=>by
    obtain ⟨i,hi,rfl⟩:=List.mem_iff_getElem.1 hc
    have h1:=ye0 g.cs (i/2)
    simp only [sprL,List.getElem_map,List.getElem_range]
    split<;>omega)
  have hres:=hR g hS0
  have bk:decide ((s.length:Int)<s.length)=false:=by simp
  have e2n:(2*(g.cs.length:Int)).toNat=2*g.cs.length:=by omega
  repeat' (first|omega|(first|apply yaa|(refine yac.intro (id:=21) [[67,68],[66,6],[66,6],[67,68],[]] [[],[0],[0],[1,2],[]] (by decide+kernel) mixed ?_)|(refine yac.introT (id:=21) (yat) (by decide+kernel) mixed ?_)|skip);simp only [go_sem,sevalprocAttr,bk,hgf,hol,e2n,↓reduceIte,reduceCtorEq,yat]|apply yae<;>(intro h_;(try simp only [h_]);revert h_)|apply yad|apply yab|apply gspI|apply And.intro|with_reducible intro h_|trivial|simp only [go_sem,la2];omega)
  refine yak.intro (fun n' fr H=> ∃j:Nat,j<=g.cs.length/\n'=g.cs.length-j/\fr=[(80,I j),(79,I g.cs.length),(78,roI g.cs),(19, .sl 1 1000002 0 (2*g.cs.length)),(18, .ptr 1000001 0),(4, .ptr 1 0)]/\
   H=[(1000002, .cells 3 (.ints (sprL g.cs j))),(1000001, .cells 65 (.lst [I g.lo,roI g.cs])),(1, .cells 28 (.lst [.bool false, .nils]))]) ?_ ?_
  ·refine ⟨_,_,_,Wk.sub ?_ ?_,0,by omega,rfl,rfl,rfl⟩
   ·simp only [go_sem,sevalprocAttr]
   ·simp only [go_sem,sevalprocAttr,y5j]
  rintro n' fr H ⟨j,hj,rfl,rfl,rfl⟩
  have hsl:=yej g.cs j
  by_cases hjl:j<g.cs.length
  ·have bj:decide ((j:Int)<g.cs.length)=true:=by simp;omega
   have e1:(2*(j:Int)).toNat=2*j:=by omega
   have hst:=ywy g.cs j hjl
   repeat' (first|omega|(first|apply yaa|(refine yac.intro (id:=21) [[67,68],[66,6],[66,6],[67,68],[]] [[],[0],[0],[1,2],[]] (by decide+kernel) mixed ?_)|(refine yac.introT (id:=21) (yat) (by decide+kernel) mixed ?_)|skip);simp only [go_sem,sevalprocAttr,bj,e1,hsl,hst,↓reduceIte,reduceCtorEq,yat]|apply yae<;>(intro h_;(try simp only [h_]);revert h_)|apply yad|apply yab|apply gspI|apply And.intro|with_reducible intro h_|trivial|simp only [go_sem,la2];omega)
   refine ⟨_,_,_,?_,Wk.sub ?_ ?_,j+1,by omega,rfl,rfl,rfl⟩
   ·omega
   ·simp only [go_sem,sevalprocAttr]
   ·simp only [go_sem,sevalprocAttr,hst]
  ·obtain rfl:j=g.cs.length:=by omega
   have bj:decide ((g.cs.length:Int)<g.cs.length)=false:=by simp
   have htk:(sprL g.cs g.cs.length).take (2*g.cs.length)=sprL g.cs g.cs.length:=List.take_of_length_le (by omega)
   rw [hres] at hOf
   repeat' (first|omega|(first|apply yaa|(refine yac.intro (id:=21) [[67,68],[66,6],[66,6],[67,68],[]] [[],[0],[0],[1,2],[]] (by decide+kernel) mixed ?_)|(refine yac.introT (id:=21) (yat) (by decide+kernel) mixed ?_)|skip);simp only [go_sem,sevalprocAttr,bj,hsl,↓reduceIte,reduceCtorEq,yat]|apply yae<;>(intro h_;(try simp only [h_]);revert h_)|apply yad|apply yab|apply gspI|apply And.intro|with_reducible intro h_|trivial|simp only [go_sem,la2];omega)
   refine ⟨yaf.frz [1000002] rfl (by simp only [go_sem,sevalprocAttr,hsl,htk,Nat.le_refl]) (by simp only [go_sem,sevalprocAttr,hsl,htk,Nat.le_refl]) (by simp only [go_sem,sevalprocAttr,hsl,htk,Nat.le_refl]) (by simp only [go_sem,sevalprocAttr,hsl,htk,Nat.le_refl]) rfl rfl rfl (yaf.fn rfl hOf ?_)⟩
   repeat' (first|omega|(first|apply yaa|(refine yac.intro (id:=21) [[67,68],[66,6],[66,6],[67,68],[]] [[],[0],[0],[1,2],[]] (by decide+kernel) mixed ?_)|(refine yac.introT (id:=21) (yat) (by decide+kernel) mixed ?_)|skip);simp only [go_sem,sevalprocAttr,bj,hsl,↓reduceIte,reduceCtorEq,yat]|apply yae<;>(intro h_;(try simp only [h_]);revert h_)|apply yad|apply yab|apply gspI|apply And.intro|with_reducible intro h_|trivial|simp only [go_sem,la2];omega)
   all_goals exact LeA.refl _
end Go.Proofs.YtmdjdekgakidhaaDoor
