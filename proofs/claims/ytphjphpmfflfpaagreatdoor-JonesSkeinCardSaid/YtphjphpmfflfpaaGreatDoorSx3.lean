/- Layer 17: sweep: the bracket of the crossings, along an order (the walk). -/
import Derived.Test.YtphjphpmfflfpaaGreatDoorZo
namespace Go.Proofs.YtphjphpmfflfpaaGreatDoor
open Go Go.RowKit
set_option maxRecDepth 100000
set_option maxHeartbeats 8000000
set_option linter.unusedVariables false
set_option linter.unusedSimpArgs false
def fJ:Tr:= .node [(0, .node [(1, .node [(2, .node [(3, .node [(4, .done)])]),(3, .node [(2, .node [(4, .done)])])]),(3, .node [(1, .node [(2, .node [(4, .done)])])])]),(1, .node [(0, .node [(2, .node [(3, .node [(4, .done)])]),(3, .node [(2, .node [(4, .done)])])]),(2, .node [(0, .node [(3, .node [(4, .done)])])])])]
abbrev F4 (m ends:List Int) (c:Nat):Cs:= .lst [I ends.length,roI (aU m ends c),roI (cC m ends c),roI (aG m ends c)]
def dQ (cs:List Int) (k:Nat):List Int:=(List.range (2*cs.length)).map fun i=>if i % 2=0/\i/2<k then cs.getD (i/2) 0 else 0
theorem yM (cs:List Int) (k:Nat):(dQ cs k).length=2*cs.length:=by simp [dQ]
theorem Je (cs:List Int):dQ cs 0=List.replicate (2*cs.length) 0:=by
 apply List.ext_getElem?;intro i;by_cases h:i<2*cs.length<;>simp [dQ,h]
theorem WH (cs:List Int) (k:Nat) (hk:k<cs.length):(dQ cs k).set (2*k) (cs.getD k 0)=dQ cs (k+1):=by
 apply List.ext_getElem?;intro i;rw [List.getElem?_set,yM];by_cases e:2*k=i
 ·subst e;rw [if_pos rfl,if_pos (by omega)];simp only [dQ,List.getElem?_map,List.getElem?_range (show 2*k<2*cs.length by omega),Option.map_some];rw [if_pos (by omega),show 2*k/2=k by omega]
 ·rw [if_neg e];by_cases hi:i<2*cs.length
  ·simp only [dQ,List.getElem?_map,List.getElem?_range hi,Option.map_some];by_cases h1:i % 2=0/\i/2<k
   ·rw [if_pos h1,if_pos (by omega)]
   ·rw [if_neg h1,if_neg (by omega)]
  ·simp [dQ,hi]
theorem Jd (lo:Int) (cs:List Int) (e:Int):cfL (tmI lo (dQ cs cs.length)) e=iv lo cs e:=by
 rw [Aj];unfold iv;by_cases h:lo<=e
 ·rw [if_pos h];obtain ⟨j,hj⟩: ∃j:Nat,e=lo+j:=⟨(e-lo).toNat,by omega⟩;subst hj;rw [show (lo+(j:Int)-lo).toNat=j by omega,show ((lo+(j:Int)-lo)/2).toNat=j/2 by omega];by_cases h1:j<2*cs.length
  ·simp only [dQ,List.getD_eq_getElem?_getD,List.getElem?_map,List.getElem?_range h1,Option.map_some,Option.getD_some];by_cases h2:j % 2=0
   ·rw [if_pos ⟨h2,by omega⟩,if_pos (by omega)]
   ·rw [if_neg fun g=>h2 g.1,if_neg (by omega)]
  ·rw [mE (by rw [yM];omega)]
   split
   ·rw [mE (by omega)]
   ·rfl
 ·rw [if_neg h,if_neg fun g=>h g.1]
theorem UQ (HF:Hp) (sd:List PE):(dV 0 sd).map (fun q=>(q.1,q.2.1,aN HF 4 q.2.2))=dV 0 sd:=by
 conv=>rhs;rw [←List.map_id (dV 0 sd)]
 exact List.map_congr_left fun q hq=>by obtain ⟨k,g,_,rfl⟩:=oz _ _ _ hq;rfl
theorem Vw (HF:Hp) (sd:List PE):(∀q∈dV 0 sd,aT HF 4 q.2.2)=True:=by
 rw [eq_iff_iff,iff_true];intro q hq;obtain ⟨k,g,_,rfl⟩:=oz _ _ _ hq;simp only [aT,List.forall_mem_cons];exact ⟨trivial,trivial,by simp⟩
theorem zR (H:Hp) (sd:List PE):(dV 0 sd).all (fun q=>s3 H q.2.2)=true:=List.all_eq_true.2 fun q hq=>by obtain ⟨k,g,_,rfl⟩:=oz _ _ _ hq;rfl
theorem QM (sd:List PE): ∀q∈dV 0 sd,q.2.1<sd.length:=fun q hq=>by
 obtain ⟨k,g,hk,rfl⟩:=oz _ _ _ hq
 have:=(List.getElem?_eq_some_iff.1 hk).1
 simp only;omega
theorem Vv {sd:List PE} (hk:kE sd) {i:Nat} {g:PE} (h:sd[i]?=some g):kJ (dV 0 sd) g.key=some (g.key,i,tpA g.lo g.cs):=by
 have key: ∀(G:List PE) (i j:Nat) (g:PE),kE G->G[j]?=some g->kJ (dV i G) g.key=some (g.key,i+j,tpA g.lo g.cs):=by
  intro G
  induction G with
  |nil=>intro i j g _ h;simp at h
  |cons a G ih=>
   intro i j g hk h
   match j,h with
   |0,h=>
    simp only [List.getElem?_cons_zero,Option.some.injEq] at h;subst h;simp [kJ,dV]
   |j+1,h=>
    simp only [List.getElem?_cons_succ] at h;unfold kE at hk;rw [List.map_cons,List.nodup_cons] at hk;have aw:a.key≠g.key:=fun e=>hk.1 (e▸List.mem_map.2 ⟨g,List.mem_of_getElem? h,rfl⟩)
    have:=ih (i+1) j g hk.2 h
    unfold kJ at this⊢;simp only [dV,List.find?_cons];rw [show decide (a.key=g.key)=false by simpa using aw,this];simp only [show i+1+j=i+(j+1) by omega]
 have:=key sd 0 i g hk h
 rwa [Nat.zero_add] at this
theorem OY {sd:List PE} {i:Nat} {g:PE} (h:sd[i]?=some g):List.find? (fun q=>q.2.1==i) (dV 0 sd)=some (g.key,i,tpA g.lo g.cs):=by
 have key: ∀(G:List PE) (a j:Nat) (g:PE),G[j]?=some g->List.find? (fun q=>q.2.1==a+j) (dV a G)=some (g.key,a+j,tpA g.lo g.cs):=by
  intro G
  induction G with
  |nil=>intro a j g h;simp at h
  |cons b G ih=>
   intro a j g h
   match j,h with
   |0,h=>
    simp only [List.getElem?_cons_zero,Option.some.injEq] at h;subst h;simp [dV]
   |j+1,h=>
    simp only [List.getElem?_cons_succ] at h
    have:=ih (a+1) j g h
    simp only [dV,List.find?_cons];rw [show (a==a+(j+1))=false by simp,show a+(j+1)=a+1+j by omega];exact this
 have:=key sd 0 i g h
 rwa [Nat.zero_add] at this
theorem C3 {F A:Fr} (hA: ∀q∈A,fget F q.1=q.2) (hs:A.all (fun q=>s3 cL q.2)=true) (t:Nat):fget A t= .any\/(fget A t=fget F t/\s3 cL (fget A t)=true):=by
 rcases DP hs t with h|h
 ·exact .inl h
 ·rcases SN hA t with g|g
  ·exact .inr ⟨g,h⟩
  ·exact .inl g
theorem QL (i j:Nat) (sd:List PE):(dV 0 sd).map (fun q=>(q.1,q.2.1,swV i j 4 q.2.2))=dV 0 sd:=by
 conv=>rhs;rw [←List.map_id (dV 0 sd)]
 exact List.map_congr_left fun q hq=>by obtain ⟨k,g,_,rfl⟩:=oz _ _ _ hq;rfl
theorem Jc {m:List Int} {n:Nat} {o:List Nat} {sd:List PE} (h:lW m n o n sd) (he:e9 m o n=[]) (ho:o.drop n=[]): ∃g:PE,sd=[g]/\g.key=pS []/\(∀e,iv g.lo g.cs e=bA m n 0 1 e):=by
 have hk: ∀g∈sd,g.key=pS []:=fun g hg=>by
  obtain ⟨h1,h2⟩:=h.ok.ok g hg;rw [he] at h2;rw [h1,List.length_eq_zero_iff.1 h2.len]
 match sd,h,hk with
 |[],h,_=>have:=h.pos;simp at this
 |[g],h,hk=>
  refine ⟨g,rfl,hk g (List.mem_cons_self ..),fun e=>?_⟩
  have:=h.va e
  rw [ho] at this;simpa [sumG,oH,finR] using this
 |g::g'::r,h,hk=>
  have h1:=h.ok.nd;unfold kE at h1;simp only [List.map_cons,List.nodup_cons,List.mem_cons,not_or] at h1;exact absurd ((hk g (List.mem_cons_self ..)).trans (hk g' (List.mem_cons_of_mem _ (List.mem_cons_self ..))).symm) h1.1.1
theorem Jb {m:List Int} {n:Nat} (hp:bd m n) (hn:n<=100) {e:Int} (he:bA m n 0 1 e≠0): -1000<=e/\e<=1000:=by
 have h1:=wI hp he;have h2:=s5 hp (fun _=>true);have h3:=s5 hp (fun _=>false);omega
theorem Vu (s m:List Int) (L:Int) (hp:bd m s.length) {o:List Nat} (hn:o.Nodup) (hl:o.length=s.length) (hr: ∀c∈o,c<s.length) (ur:s.length<=14) (jN:0<s.length):
  Fn Tryz.prog 90 [dgA s m L,roI (o.map (Nat.cast:Nat->Int))] (.tup [plA false (dJ (bA m s.length 0 1)), .bool true]):=by
 have gZ: ∀k,(o.map (Nat.cast:Nat->Int)).getD k 0=((o.getD k 0:Nat):Int):=fun k=>by
  simp only [List.getD_eq_getElem?_getD,List.getElem?_map];cases o[k]?<;>rfl
 have cG:(o.map (Nat.cast:Nat->Int)).length=s.length:=by rw [List.length_map,hl]
 obtain ⟨om,pQ⟩: ∃om,o.map (Nat.cast:Nat->Int)=om:=⟨_,rfl⟩;rw [pQ] at gZ cG⊢;refine Fn.au [.cell 4 29, .tmp 5] Tryz.func90 rfl rfl (by decide) (by simp [Tryz.ntmps90]) ?_;rw [Tryz.ntmps90]
 repeat' (first|omega|(try apply aj);simp only [go_sem,sevalprocAttr]|apply ag<;>(intro h_;(try simp only [h_]);revert h_)|apply ah|apply ai|apply ae|apply And.intro|with_reducible intro h_|trivial|simp only [go_sem,ak];omega)
 refine dM.insert (id:=2) (ob:= .gmap 152 1 [(⟨#[]⟩,0, .agg [I 0, .sl 1 3 0 1])]) rfl rfl (by simp only [go_sem,sevalprocAttr];rfl) ?_
 repeat' (first|omega|(try apply aj);simp only [go_sem,sevalprocAttr]|apply ag<;>(intro h_;(try simp only [h_]);revert h_)|apply ah|apply ai|apply ae|apply And.intro|with_reducible intro h_|trivial|simp only [go_sem,ak];omega)
 refine bN.intro (fun n' fr H=> ∃(k:Nat) (sd:List PE),k<=s.length/\lW m s.length o k sd/\n'=s.length-k/\fr=[(28,I k),(27,I s.length),(26,roI om),(7,roI (e9 m o k)),(6, .mp 2),(4, .ptr 1 0),(2, .rp (.lst [roI s,roI m,I L]) 0),(1,roI om)]/\
  H=[(2, .gmap 152 sd.length (dV 0 sd)),(1, .cells 29 (.lst [.bool false, .nils])),(1000000, .gone)]) ?_ ?_
 ·refine ⟨_,_,_,?_,0,[⟨pS [],0,[1]⟩],by omega,lW.init hp hn hl hr jN,rfl,rfl,rfl⟩
  refine (Wk.kB [0,3] ?_ ?_ rfl rfl).trans ((Wk.sub (fr':=[(28,I (0:Nat)),(27,I s.length),(26,roI om),(7, .nils),(6, .mp 2),(4, .ptr 1 0),(2, .rp (.lst [roI s,roI m,I L]) 0),(1,roI om)]) (H':=[(2, .gmap 152 1 (dV 0 [⟨pS [],0,[1]⟩])),(1, .cells 29 (.lst [.bool false, .nils]))]) ?_ ?_).trans ((Wk.le ?_).trans (Wk.gone 1000000 rfl)))
  ·simp only [go_sem,sevalprocAttr]
  ·simp only [go_sem,sevalprocAttr]
  ·simp only [go_sem,sevalprocAttr,cG]
  ·(simp only [go_sem,sevalprocAttr,dV])<;>rfl
  ·exact .cons (aM.refl _) (.cons (aM.refl _) (.cons (aM.refl _) (.cons (aM.nils (by decide) rfl) (kD.refl _))))
 rintro n' fr H ⟨k,sd,hk,hS,rfl,rfl,rfl⟩;by_cases Ld:k<s.length
 ·have bk:decide ((k:Int)<s.length)=true:=by simp;omega
  obtain ⟨s1,s2⟩:=yz hp hn hl hr k (by omega);have s3:=(yz hp hn hl hr (k+1) (by omega)).2;rw [vg (by omega)] at s1;have s4:(aG m (e9 m o k) (o.getD k 0)).length<=4*(k+1):=s3;have hd:=s1.dj _ (List.mem_cons_self ..);have KO:=Jn s m L (e9 m o k) (o.getD k 0) (by omega) hp.ok hd.2 (by omega) (fun i hi=>by
   have:=(s1.he.at hi).1
   unfold ax at this;exact this)
  have Cw:=gZ k
  repeat' (first|omega|(first|apply aj|(refine an.intro (id:=21) [[67,68],[66,6],[66,6],[67,68],[]] [[],[0],[0],[1,2],[]] (by decide+kernel) mixed ?_)|(refine an.av (id:=21) (fJ) (by decide+kernel) mixed ?_)|skip);simp only [go_sem,sevalprocAttr,bk,Cw,cG,Int.toNat_natCast,↓reduceIte,reduceCtorEq,fJ]|apply ag<;>(intro h_;(try simp only [h_]);revert h_)|apply ah|apply ai|apply ae|apply And.intro|with_reducible intro h_|trivial|simp only [go_sem,ak];omega)
  refine ⟨az.fn rfl KO ?_⟩;have KI:(((k:Int)==(s.length:Int)-1)=true/\spN (o.drop (k+1))=1)\/(((k:Int)==(s.length:Int)-1)=false/\spN (o.drop (k+1))=0):=by
   by_cases gM:k=s.length-1
   ·left;refine ⟨by simp;omega,?_⟩;rw [List.drop_eq_nil_of_le (by omega)];rfl
   ·right;refine ⟨by simp;omega,?_⟩;rw [vg (show k+1<o.length by omega)];rfl
  have uD:=UQ;have tp:=Vw;have nP:=zR;rcases KI with ⟨b1,dT⟩|⟨b1,dT⟩
  all_goals (
   repeat' (first|omega|(first|apply aj|(refine an.intro (id:=21) [[67,68],[66,6],[66,6],[67,68],[]] [[],[0],[0],[1,2],[]] (by decide+kernel) mixed ?_)|(refine an.av (id:=21) (fJ) (by decide+kernel) mixed ?_)|skip);simp only [go_sem,sevalprocAttr,b1,cG,↓reduceIte,reduceCtorEq,fJ]|apply ag<;>(intro h_;(try simp only [h_]);revert h_)|apply ah|apply ai|apply ae|apply And.intro|with_reducible intro h_|trivial|simp only [go_sem,ak];omega)
   refine dM.range (kt:=9) (et:=151) (mid:=2) rfl rfl (by simp only [go_sem,sevalprocAttr]) rfl rfl ?_
   repeat' (first|omega|(first|apply aj|(refine an.intro (id:=21) [[67,68],[66,6],[66,6],[67,68],[]] [[],[0],[0],[1,2],[]] (by decide+kernel) mixed ?_)|(refine an.av (id:=21) (fJ) (by decide+kernel) mixed ?_)|skip);simp only [go_sem,sevalprocAttr,b1,cG,↓reduceIte,reduceCtorEq,fJ]|apply ag<;>(intro h_;(try simp only [h_]);revert h_)|apply ah|apply ai|apply ae|apply And.intro|with_reducible intro h_|trivial|simp only [go_sem,ak];omega)
   refine bN.intro (fun n' fr H=> ∃(sn:List Nat) (G:List PE),iF m s.length o k sd sn G/\n'=sd.length-sn.length/\fr=[(45, .ptr 1000004 0),(13, .fn 144 [.ptr 1000003 0]),(12, .ptr 1000003 0),(11,I (spN (o.drop (k+1)))),(10, .rp (F4 m (e9 m o k) (o.getD k 0)) 0),(28,I k),(27,I s.length),(26,roI om),(4, .ptr 1 0),(2, .rp (.lst [roI s,roI m,I L]) 0),(1,roI om)]/\
    H=aR sd sn G) ?_ ?_
   ·refine ⟨_,_,_,(Wk.kB [1000001] ?_ ?_ rfl rfl).trans (Wk.sub ?_ ?_),[],[],iF.init m s.length o k sd,rfl,rfl,rfl⟩
    ·simp only [go_sem,sevalprocAttr]
    ·simp only [go_sem,sevalprocAttr,tp]
    ·(simp only [go_sem,sevalprocAttr,uD,dT,cG])<;>rfl
    ·refine ⟨by simp only [go_sem,sevalprocAttr,uD],rfl,by simp only [go_sem,sevalprocAttr,uD],rfl,by (simp only [go_sem,sevalprocAttr,uD])<;>rfl,rfl,by simp only [go_sem,sevalprocAttr,uD],zR _ sd,by simp only [go_sem,sevalprocAttr,uD],rfl,by simp only [go_sem,sevalprocAttr,uD],rfl,trivial⟩
   rintro n' fr H ⟨sn,G,hM,rfl,rfl,rfl⟩
   repeat' (first|omega|(first|apply aj|(refine an.intro (id:=21) [[67,68],[66,6],[66,6],[67,68],[]] [[],[0],[0],[1,2],[]] (by decide+kernel) mixed ?_)|(refine an.av (id:=21) (fJ) (by decide+kernel) mixed ?_)|skip);simp only [go_sem,sevalprocAttr,cG,↓reduceIte,reduceCtorEq,fJ]|apply ag<;>(intro h_;(try simp only [h_]);revert h_)|apply ah|apply ai|apply ae|apply And.intro|with_reducible intro h_|trivial|simp only [go_sem,ak];omega)
   refine dM.next (iid:=1000004) (mid:=2) rfl rfl rfl rfl rfl (QM sd) (Nat.le_refl _) (fun b6=>?_) (fun q hq B9=>?_)
   ·have CP:=hM.all hS fun i hi=>by
     have:=b6 _ (QY sd 0 i _ (List.getElem?_eq_getElem hi))
     simpa using this
    have SF:G.length<=900000:=by
     have h1:=hM.len;have h2:=hM.aS;have h3:=hS.len;have h4:2^k<=2^14:=Nat.pow_le_pow_right (by omega) (by omega);omega
    have js:max 1000001 (hnew (dC 0 G))=1000001:=by have:=qW G 0;omega
    repeat' (first|omega|(first|apply aj|(refine an.intro (id:=21) [[67,68],[66,6],[66,6],[67,68],[]] [[],[0],[0],[1,2],[]] (by decide+kernel) mixed ?_)|(refine an.av (id:=21) (fJ) (by decide+kernel) mixed ?_)|skip);simp only [go_sem,sevalprocAttr,cG,↓reduceIte,reduceCtorEq,fJ]|apply ag<;>(intro h_;(try simp only [h_]);revert h_)|apply ah|apply ai|apply ae|apply And.intro|with_reducible intro h_|trivial|simp only [go_sem,ak];omega)
    refine dM.range (kt:=9) (et:=151) (mid:=1000002) rfl rfl (by simp only [go_sem,sevalprocAttr]) rfl rfl ?_
    repeat' (first|omega|(first|apply aj|(refine an.intro (id:=21) [[67,68],[66,6],[66,6],[67,68],[]] [[],[0],[0],[1,2],[]] (by decide+kernel) mixed ?_)|(refine an.av (id:=21) (fJ) (by decide+kernel) mixed ?_)|skip);simp only [go_sem,sevalprocAttr,js,cG,↓reduceIte,reduceCtorEq,fJ]|apply ag<;>(intro h_;(try simp only [h_]);revert h_)|apply ah|apply ai|apply ae|apply And.intro|with_reducible intro h_|trivial|simp only [go_sem,ak];omega)
    refine bN.intro (fun n' fr H=> ∃rf:List Nat,rf.Nodup/\(∀i∈rf,i<G.length)/\n'=G.length-rf.length/\fr=[(58, .ptr 1000005 0),(12, .ptr 1000003 0),(10, .rp (F4 m (e9 m o k) (o.getD k 0)) 0),(28,I k),(27,I s.length),(26,roI om),(4, .ptr 1 0),(2, .rp (.lst [roI s,roI m,I L]) 0),(1,roI om)]/\H=[(1000005, .iter 1000002 G.length rf G.length),(1000003, .cells 152 (.lst [.mp 1000002])),(1000002, .gmap 152 G.length (dV 0 G)),(1, .cells 29 (.lst [.bool false, .nils])),(1000000, .gone)]) ?_ ?_
    ·refine ⟨_,_,_,UR SF ?_ ?_ ?_,[],by simp,by simp,rfl,rfl,rfl⟩
     ·simp only [go_sem,sevalprocAttr,Bt,cL,cG]
     ·simp only [go_sem,sevalprocAttr,List.forall_mem_cons,cG]
     ·simp only [go_sem,sevalprocAttr,cG]
    rintro n' fr H ⟨rf,Cd,B8,rfl,rfl,rfl⟩;have XJ:rf.length<=G.length:=by
     have:=q8 Cd (k:=List.range G.length) fun i hi=>List.mem_range.2 (B8 i hi)
     simpa using this
    repeat' (first|omega|(first|apply aj|(refine an.intro (id:=21) [[67,68],[66,6],[66,6],[67,68],[]] [[],[0],[0],[1,2],[]] (by decide+kernel) mixed ?_)|(refine an.av (id:=21) (fJ) (by decide+kernel) mixed ?_)|skip);simp only [go_sem,sevalprocAttr,cG,↓reduceIte,reduceCtorEq,fJ]|apply ag<;>(intro h_;(try simp only [h_]);revert h_)|apply ah|apply ai|apply ae|apply And.intro|with_reducible intro h_|trivial|simp only [go_sem,ak];omega)
    refine dM.next (iid:=1000005) (mid:=1000002) rfl rfl rfl rfl rfl (QM G) (Nat.le_refl _) (fun St=>?_) (fun q hq B9=>?_)
    ·repeat' (first|omega|(first|apply aj|(refine an.intro (id:=21) [[67,68],[66,6],[66,6],[67,68],[]] [[],[0],[0],[1,2],[]] (by decide+kernel) mixed ?_)|(refine an.av (id:=21) (fJ) (by decide+kernel) mixed ?_)|skip);simp only [go_sem,sevalprocAttr,cG,↓reduceIte,reduceCtorEq,fJ]|apply ag<;>(intro h_;(try simp only [h_]);revert h_)|apply ah|apply ai|apply ae|apply And.intro|with_reducible intro h_|trivial|simp only [go_sem,ak];omega)
     any_goals exact zR [(1000005, .iter 1000002 G.length rf G.length),(1000003, .cells 152 (.lst [.mp 1000002])),(1000002, .gmap 152 G.length (dV 0 G)),(1, .cells 29 (.lst [.bool false, .nils])),(1000000, .gone)] G
     refine ⟨_,_,_,?_,?_,k+1,G,by omega,CP,rfl,rfl,rfl⟩
     ·omega
     ·refine Wk.tT (fr1:=[(28,I ((k+1:Nat):Int)),(27,I s.length),(26, .ro 1 s.length (.ints om)),(7,roI (e9 m o (k+1))),(6, .mp 1000002),(4, .ptr 1 0),(2, .rp (.lst [roI s,roI m,I L]) 0),(1, .ro 1 s.length (.ints om))]) (H1:=[(1000002, .gmap 152 G.length (dV 0 G)),(1, .cells 29 (.lst [.bool false, .nils])),(1000000, .gone)]) 1000002 2 ?_ ?_ ?_ ?_ ?_ ?_
      ·rfl
      ·simp only [swH,swO,QL,List.map_cons,List.map_nil];rfl
      ·rfl
      ·simp only [swH,swO,QL,List.map_cons,List.map_nil];rfl
      ·(simp only [go_sem,sevalprocAttr,cG])<;>exact ⟨rfl,rfl⟩
      ·exact ⟨rfl,zR _ G,rfl,rfl,rfl,rfl,trivial⟩
    ·obtain ⟨i,g,hi,rfl⟩:=oz _ _ _ hq;simp only [Nat.zero_add] at B9 hq;have mj:=OY hi;have xp:(rf++[i]).getLast?=some i:=by simp
     have oc:g∈G:=List.mem_of_getElem? hi;have uI:=Jz g.lo g.cs (by have:=hM.ok.rg g oc;omega) (by
      have h1:=hM.mx hS oc;have h2:2^(3*s.length)<=2^42:=Nat.pow_le_pow_right (by omega) (by omega);omega)
     have fS:=(List.getElem?_eq_some_iff.1 hi).1;have Cc:(rf++[i]).Nodup:=by
      rw [List.nodup_append];refine ⟨Cd,by simp,fun x hx y hy e=>?_⟩;simp only [List.mem_cons,List.not_mem_nil,or_false] at hy;exact B9 (hy▸e▸hx)
     have B7: ∀j∈rf++[i],j<G.length:=fun j hj=>by
      rcases List.mem_append.1 hj with hj|hj
      ·exact B8 j hj
      ·simp only [List.mem_cons,List.not_mem_nil,or_false] at hj;subst hj;exact fS
     have KL:=q8 Cc (k:=List.range G.length) fun i hi=>List.mem_range.2 (B7 i hi);simp only [List.length_append,List.length_cons,List.length_nil,List.length_range] at KL
     repeat' (first|omega|(first|apply aj|(refine an.intro (id:=21) [[67,68],[66,6],[66,6],[67,68],[]] [[],[0],[0],[1,2],[]] (by decide+kernel) mixed ?_)|(refine an.av (id:=21) (fJ) (by decide+kernel) mixed ?_)|skip);simp only [go_sem,sevalprocAttr,cG,mj,xp,Nat.zero_add,↓reduceIte,reduceCtorEq,fJ]|apply ag<;>(intro h_;(try simp only [h_]);revert h_)|apply ah|apply ai|apply ae|apply And.intro|with_reducible intro h_|trivial|simp only [go_sem,ak];omega)
     refine ⟨az.fn rfl uI ?_⟩
     repeat' (first|omega|(first|apply aj|(refine an.intro (id:=21) [[67,68],[66,6],[66,6],[67,68],[]] [[],[0],[0],[1,2],[]] (by decide+kernel) mixed ?_)|(refine an.av (id:=21) (fJ) (by decide+kernel) mixed ?_)|skip);simp only [go_sem,sevalprocAttr,cG,↓reduceIte,reduceCtorEq,fJ]|apply ag<;>(intro h_;(try simp only [h_]);revert h_)|apply ah|apply ai|apply ae|apply And.intro|with_reducible intro h_|trivial|simp only [go_sem,ak];omega)
     refine ⟨_,_,_,?_,Wk.sub ?_ ?_,rf++[i],Cc,B7,rfl,rfl,rfl⟩
     ·simp only [List.length_append,List.length_cons,List.length_nil];omega
     ·simp only [go_sem,sevalprocAttr,cG]
     ·exact ⟨rfl,rfl,rfl,rfl,rfl,zR _ G,rfl,rfl,rfl,rfl,trivial⟩
   ·obtain ⟨i,g,hi,rfl⟩:=oz _ _ _ hq;simp only [Nat.zero_add] at B9 hq;have mj:=OY hi;have xp:(sn++[i]).getLast?=some i:=by simp
    have oc:g∈sd:=List.mem_of_getElem? hi;have oS:=hM.step hp hn hl hr ur Ld hS hi B9;have iT:=oS.aS;simp only [List.length_append,List.length_cons,List.length_nil] at iT;have h42:2^(3*s.length)<=2^42:=Nat.pow_le_pow_right (by omega) (by omega);have Y2:2^k<=2^14:=Nat.pow_le_pow_right (by omega) (by omega);have js:max 1000001 (hnew (dC 0 G))=1000001:=by
     have:=qW G 0
     have:=hM.len
     have:=hS.len
     omega
    repeat' (first|omega|(first|apply aj|(refine an.intro (id:=21) [[67,68],[66,6],[66,6],[67,68],[]] [[],[0],[0],[1,2],[]] (by decide+kernel) mixed ?_)|(refine an.av (id:=21) (fJ) (by decide+kernel) mixed ?_)|skip);simp only [go_sem,sevalprocAttr,cG,mj,xp,js,Nat.zero_add,↓reduceIte,reduceCtorEq,fJ]|apply ag<;>(intro h_;(try simp only [h_]);revert h_)|apply ah|apply ai|apply ae|apply And.intro|with_reducible intro h_|trivial|simp only [go_sem,ak];omega)
    refine ⟨az.inline (Ty (fr1:=[(45, .ptr 1000004 0),(13, .fn 144 [.ptr 1000003 0]),(12, .ptr 1000003 0),(11,I (spN (o.drop (k+1)))),(10, .rp (F4 m (e9 m o k) (o.getD k 0)) 0),(28,I k),(27,I s.length),(26,roI om),(4, .ptr 1 0),(2, .rp (.lst [roI s,roI m,I L]) 0),(1,roI om)]) hp s1.he hd.2 hd.1 (by omega) (by omega) sd (sn++[i]) G g (spN (o.drop (k+1))) (by cases o.drop (k+1)<;>simp [spN]) (hS.ok.ok g oc) (hS.ok.pr g oc) (hS.ok.rg g oc) (hS.ok.ne g oc) (by omega) hM.ok (by have:=hM.len;have:=hS.len;omega) (fun x hx=>by have:=hM.mx hS hx;omega) (fun b=>?_) ?_ (Ho (by simp) ?_ ?_ ?_) ?_)⟩
    ·have h1:=Hs (F:=kd m (o.drop k) (e9 m o k)) oc;have h2:=hS.nu;rw [vg (show k<o.length by omega)] at h1 h2
     have:=Bu (Nat.le_trans h1 h2) b
     omega
    ·rfl
    ·rfl
    ·refine C3 ?_ rfl;simp only [go_sem,sevalprocAttr,List.forall_mem_cons,cG]
    ·intro i' o' jv;rw [hget,if_neg fun e=>by subst e;rw [Ax (by have:=hM.len;have:=hS.len;omega) (by omega)] at jv;cases jv];exact jv
    ·repeat' (first|omega|(first|apply aj|(refine an.intro (id:=21) [[67,68],[66,6],[66,6],[67,68],[]] [[],[0],[0],[1,2],[]] (by decide+kernel) mixed ?_)|(refine an.av (id:=21) (fJ) (by decide+kernel) mixed ?_)|skip);simp only [go_sem,sevalprocAttr,cG,↓reduceIte,reduceCtorEq,fJ]|apply ag<;>(intro h_;(try simp only [h_]);revert h_)|apply ah|apply ai|apply ae|apply And.intro|with_reducible intro h_|trivial|simp only [go_sem,ak];omega)
     refine ⟨_,_,_,?_,Ui ?_ (fun t ht=>?_) (fun _ _ h=>h),sn++[i],_,oS,rfl,rfl,rfl⟩
     ·simp only [List.length_append,List.length_cons,List.length_nil];omega
     ·simp only [go_sem,sevalprocAttr,List.forall_mem_cons,cG,cL,Option.isSome_some]
     ·simp only [fget]
      repeat rw [if_neg (by omega)])
 ·obtain rfl:k=s.length:=by omega
  obtain ⟨s1,s2⟩:=yz hp hn hl hr s.length (by omega);have tm:o.drop s.length=[]:=List.drop_eq_nil_of_le (by omega);have tq:e9 m o s.length=[]:=DT hp s1.he fun c hc=>by
   rcases s1.al c hc with g|g
   ·exact g
   ·rw [tm] at g;simp at g
  obtain ⟨g,rfl,Cw,Yn⟩:=Jc hS tq tm;have oc:g∈[g]:=List.mem_cons_self ..;have tg:=hS.ok.rg g oc;have X5:mxN g.cs<=4398046511104:=by
   have h1:=Qe hS.nu oc;have h2:2^(3*s.length)<=2^42:=Nat.pow_le_pow_right (by omega) (by omega);omega
  have mj:kJ (dV 0 [g]) ⟨#[]⟩=some (g.key,0,tpA g.lo g.cs):=by
   have:=Vv hS.ok.nd (i:=0) (g:=g) rfl
   rw [Cw] at this⊢;exact this
  have Sy:Fn Tryz.prog 45 [I g.lo, .ro 1 (2*g.cs.length) (.ints (dQ g.cs g.cs.length))] (plA false (tmI g.lo (dQ g.cs g.cs.length))):=by
   rw [←yM g.cs g.cs.length];exact FV g.lo (dQ g.cs g.cs.length) (by rw [yM];omega) (by rw [yM];omega) (fun c hc=>by
    obtain ⟨i,hi,rfl⟩:=List.mem_iff_getElem.1 hc;have h1:=u5 g.cs (i/2);simp only [dQ,List.getElem_map,List.getElem_range]
    split<;>omega)
  have mY:tmI g.lo (dQ g.cs g.cs.length)=dJ (bA m s.length 0 1):=bH.eq ⟨D5 _ _,fun e=>by rw [Jd,Yn]⟩ fun e he=>Jb hp (by omega) he;have bk:decide ((s.length:Int)<s.length)=false:=by simp
  have Zc:(2*(g.cs.length:Int)).toNat=2*g.cs.length:=by omega
  repeat' (first|omega|(first|apply aj|(refine an.intro (id:=21) [[67,68],[66,6],[66,6],[67,68],[]] [[],[0],[0],[1,2],[]] (by decide+kernel) mixed ?_)|(refine an.av (id:=21) (fJ) (by decide+kernel) mixed ?_)|skip);simp only [go_sem,sevalprocAttr,bk,mj,cG,Zc,↓reduceIte,reduceCtorEq,fJ]|apply ag<;>(intro h_;(try simp only [h_]);revert h_)|apply ah|apply ai|apply ae|apply And.intro|with_reducible intro h_|trivial|simp only [go_sem,ak];omega)
  refine bN.intro (fun n' fr H=> ∃j:Nat,j<=g.cs.length/\n'=g.cs.length-j/\fr=[(80,I j),(79,I g.cs.length),(78,roI g.cs),(19, .sl 1 1000002 0 (2*g.cs.length)),(18, .ptr 1000001 0),(4, .ptr 1 0)]/\
   H=[(1000002, .cells 3 (.ints (dQ g.cs j))),(1000001, .cells 151 (.lst [I g.lo,roI g.cs])),(1, .cells 29 (.lst [.bool false, .nils]))]) ?_ ?_
  ·refine ⟨_,_,_,Wk.sub ?_ ?_,0,by omega,rfl,rfl,rfl⟩
   ·simp only [go_sem,sevalprocAttr]
   ·simp only [go_sem,sevalprocAttr,Je]
  rintro n' fr H ⟨j,hj,rfl,rfl,rfl⟩;have dq:=yM g.cs j;by_cases bY:j<g.cs.length
  ·have bj:decide ((j:Int)<g.cs.length)=true:=by simp;omega
   have e1:(2*(j:Int)).toNat=2*j:=by omega
   have bo:=WH g.cs j bY
   repeat' (first|omega|(first|apply aj|(refine an.intro (id:=21) [[67,68],[66,6],[66,6],[67,68],[]] [[],[0],[0],[1,2],[]] (by decide+kernel) mixed ?_)|(refine an.av (id:=21) (fJ) (by decide+kernel) mixed ?_)|skip);simp only [go_sem,sevalprocAttr,bj,e1,dq,bo,↓reduceIte,reduceCtorEq,fJ]|apply ag<;>(intro h_;(try simp only [h_]);revert h_)|apply ah|apply ai|apply ae|apply And.intro|with_reducible intro h_|trivial|simp only [go_sem,ak];omega)
   refine ⟨_,_,_,?_,Wk.sub ?_ ?_,j+1,by omega,rfl,rfl,rfl⟩
   ·omega
   ·simp only [go_sem,sevalprocAttr]
   ·simp only [go_sem,sevalprocAttr,bo]
  ·obtain rfl:j=g.cs.length:=by omega
   have bj:decide ((g.cs.length:Int)<g.cs.length)=false:=by simp
   have cP:(dQ g.cs g.cs.length).take (2*g.cs.length)=dQ g.cs g.cs.length:=List.take_of_length_le (by omega);rw [mY] at Sy
   repeat' (first|omega|(first|apply aj|(refine an.intro (id:=21) [[67,68],[66,6],[66,6],[67,68],[]] [[],[0],[0],[1,2],[]] (by decide+kernel) mixed ?_)|(refine an.av (id:=21) (fJ) (by decide+kernel) mixed ?_)|skip);simp only [go_sem,sevalprocAttr,bj,dq,↓reduceIte,reduceCtorEq,fJ]|apply ag<;>(intro h_;(try simp only [h_]);revert h_)|apply ah|apply ai|apply ae|apply And.intro|with_reducible intro h_|trivial|simp only [go_sem,ak];omega)
   refine ⟨az.kB [1000002] rfl (by simp only [go_sem,sevalprocAttr,dq,cP,Nat.le_refl]) (by simp only [go_sem,sevalprocAttr,dq,cP,Nat.le_refl]) (by simp only [go_sem,sevalprocAttr,dq,cP,Nat.le_refl]) (by simp only [go_sem,sevalprocAttr,dq,cP,Nat.le_refl]) rfl rfl rfl (az.fn rfl Sy ?_)⟩
   repeat' (first|omega|(first|apply aj|(refine an.intro (id:=21) [[67,68],[66,6],[66,6],[67,68],[]] [[],[0],[0],[1,2],[]] (by decide+kernel) mixed ?_)|(refine an.av (id:=21) (fJ) (by decide+kernel) mixed ?_)|skip);simp only [go_sem,sevalprocAttr,bj,dq,↓reduceIte,reduceCtorEq,fJ]|apply ag<;>(intro h_;(try simp only [h_]);revert h_)|apply ah|apply ai|apply ae|apply And.intro|with_reducible intro h_|trivial|simp only [go_sem,ak];omega)
   all_goals exact aM.refl _
end Go.Proofs.YtphjphpmfflfpaaGreatDoor
