/- Operations with laws of their own: literals of maps and arrays, bytes to a string. -/
import Derived.Test.YtmdjdekgakidhaaGreatDoorZa
import Derived.Laws.BytesString
set_option linter.unusedSimpArgs false
set_option linter.unusedVariables false
namespace Go.Proofs.YtmdjdekgakidhaaGreatDoor
open Go Go.RowKit
set_option linter.unusedVariables false
section
variable {P:Program} {N:Nat} {fr:Fr} {H:Hp} {K:Fr->Hp->Prop} {o:Oper}
theorem SpA.insert {t:Nat} {m k x:Operand} {id:Nat} {ob:AObj} (ho:o.op= .insert t m k x) (hd:dok o.dst N=true) (hs:muF P H t (evA fr m) (evA fr k) (evA fr x)=some (id,ob)) (h:K (fput fr o.dst .any) (hset H id ob)):SpA P N o K fr H:=by
 intro B w0 Mx w ρ a hsim Q
 obtain ⟨w',hrun,hs2⟩:=yjv (P:=P) hsim (hsim.ev m) (hsim.ev k) (hsim.ev x) hs
 have:(execOp a.eval o).run P w= .ok .skip w':=by simp only [execOp,ho];simp [hrun]
 unfold Oper.wp
 rw [this]
 exact ⟨_,_,_,h,hs2.put hd (.any _)⟩
theorem SpA.makeMap {t kt et:Nat} {r:Operand} {n:Int} (ho:o.op= .makeMap t (some r)) (hd:dok o.dst N=true) (htk:tk P t= .map kt et) (hr:evA fr r=I n) (h:K (fput fr o.dst (.mp (hnew H))) ((hnew H,mkM P t)::H)):SpA P N o K fr H:=by
 intro B w0 Mx w ρ a hs Q
 have er:=(hr▸hs.ev r).int_inv
 have hn:hget H (hnew H)=none:=yfc (Nat.le_refl _)
 have hrun:(execOp a.eval o).run P w= .ok (.value (.map (some w.heap.size))) (w.alloc (.map #[] 0)):=by
  simp only [execOp,ho]
  simp [Instr.makeMap,run_underlying (yc2 htk),asInt,asIntOf,newObj,Sem.run,er]
 have hs2:=hs.alloc (hnew H) hn (.map #[] 0) (mkM P t) fun M' ρ' D' hr _=>by
  rcases ypw P t with e|e|e|e|e<;>rw [e]
  ·exact ⟨by simp, #[],0,by rw [hr];exact ya4,rfl,by simp⟩
  ·exact ⟨[], #[],0,by rw [hr];exact ya4,rfl,fun _=>rfl⟩
  ·exact ⟨[], #[],0,by rw [hr];exact ya4,rfl,fun _=>rfl⟩
  ·exact ⟨#[],by rw [hr];exact ya4,rfl,fun j e q he=>by simp at he⟩
  ·exact ⟨[], #[],0,by rw [hr];exact ya4,rfl,fun _=>rfl⟩
 refine Oper.wp_value hrun ⟨_,_,_,h,hs2.put hd ?_⟩
 have:=VR.mp (w:=w.alloc (.map #[] 0)) (M:=MM Mx ((hnew H,mkM P t)::H) (upd ρ (hnew H) ⟨w.heap.size,0,none⟩)) (ρ:=upd ρ (hnew H) ⟨w.heap.size,0,none⟩) (D:=DD ((hnew H,mkM P t)::H)) (hnew H) yg2
 rwa [yaq] at this
def strB (ts:List Int):ByteArray:=ts.foldl (fun r n=>r.push (UInt8.ofNat n.toNat)) ByteArray.empty
theorem SpA.b2s {s d e:Nat} {x:Operand} {id t:Nat} {ts:List Int} (ho:o.op= .convert s d x) (hd:dok o.dst N=true) (hs:tk P s= .slice e) (he:tk P e= .int .u8) (hdt:tk P d= .str) (hx:evA fr x= .sl 1 id 0 ts.length) (hob:hget H id=some (.cells t (.lst (ts.map (AV.int .u8)))))
  (h:K (fput fr o.dst (.str (strB ts))) H):SpA P N o K fr H:=by
 intro B w0 Mx w ρ a hsim Q
 have hv:=hsim.ev x
 rw [hx] at hv
 obtain ⟨h1,arr,h2,h3,h4⟩:=hsim.objs id _ hob
 simp only [Cs.len,List.length_map] at h3 h4
 generalize hvv:a.eval x=v at hv
 cases hv with
 |sl es id off len cap hdd hc arr' t' ad ha hb hr=>
  have hrun:(execOp a.eval o).run P w= .ok (.value (.string (strB ts))) w:=by
   have hconv:=run_convert_bytes_string (P:=P) w s d e (some ad) ts.length cap (yau hs) (yc1 he) (ydr hdt)
   have hl:(loadCells ad ts.length).run P w= .ok (ts.map (Value.int .u8)).toArray w:=by
    have hcell: ∀j,j<ts.length->w.cell? (ad.add j)=some ((ts.map (Value.int .u8)).getD j undef):=fun j hj=>by
     have hcap:0<cap:=by omega
     have e:=ha hcap
     rw [show (ρ id).add 0=ρ id from rfl] at e
     subst e
     obtain ⟨u,g1,g2⟩:=h4 j hj
     rw [yca h1]
     have hu:u= .int .u8 (ts[j]):=by
      simp only [Cs.get,List.getD_eq_getElem?_getD,List.getElem?_map,List.getElem?_eq_getElem hj,Option.map_some,Option.getD_some] at g2
      exact g2.int_inv
     simp [World.cell?,h2,g1,hu,hj]
    have:=yc0 (P:=P) (w:=w) (a:=ad) (x:=fun j=>(ts.map (Value.int .u8)).getD j undef) ts.length 0 #[] (fun j _ hj=>hcell j (by omega))
    simp only [loadCells,this]
    congr 1
    apply Array.ext'
    apply List.ext_getElem?
    intro i
    by_cases hi:i<ts.length
    ·simp [hi]
    ·simp [hi]
   simp only [execOp,ho,hvv]
   rw [Sem.run_bind,hconv,run_bytesToString w ad ts.length cap ts hl]
   rfl
  exact Oper.wp_value hrun ⟨ρ,_,_,h,hsim.put hd (.str _)⟩
theorem SpL.ofX {ops:Array Oper} {r:List Oper} (hc:cvOk P o.op=true) (hq:quF P H (evA fr) o.op=none) (ha:alF P (hnew H) (evA fr) o.op=none) (hx:awX P N o fr H fun fr' H'=>awL P N ops r fr' H' K):SpL P N ops fr H K o r:=⟨awO.of hc hq ha hx⟩
theorem SpL.b2s {ops:Array Oper} {r:List Oper} {s d e:Nat} {x:Operand} {id t:Nat} {ts:List Int} (ho:o.op= .convert s d x) (hd:dok o.dst N=true) (hs:tk P s= .slice e) (he:tk P e= .int .u8) (hdt:tk P d= .str) (hx:evA fr x= .sl 1 id 0 ts.length) (hob:hget H id=some (.cells t (.lst (ts.map (AV.int .u8)))))
  (h:awL P N ops r (fput fr o.dst (.str (strB ts))) H K):SpL P N ops fr H K o r:=by
 refine SpL.ofX ?_ ?_ ?_ ?_
 ·rw [ho];simp only [cvOk,hs]
 ·rw [ho];simp only [quF,opF,yng,hdt,hx]
 ·rw [ho];rfl
 ·unfold awX;rw [ho];exact ⟨rfl,SpA.b2s (K:=fun fr' H'=>awL P N ops r fr' H' K) ho hd hs he hdt hx hob h⟩
theorem SpL.next {ops:Array Oper} {r:List Oper} {x:Operand} {iid mid since last t ck:Nat} {seen:List Nat} {l:List (ByteArray×Nat×AV)} (ho:o.op= .next x false) (hd:dok o.dst N=true) (hx:evA fr x= .ptr iid 0) (hi:hget H iid=some (.iter mid since seen last)) (hm:hget H mid=some (.gmap t ck l))
  (hb: ∀q∈l,q.2.1<since) (hsl:since<=last) (h1:(∀q∈l,q.2.1∈seen)->awL P N ops r (fput fr o.dst (.tup [.bool false])) H K)
  (h2: ∀q∈l,q.2.1∉seen->awL P N ops r (fput fr o.dst (.tup [.bool true, .str q.1,q.2.2])) (hset H iid (.iter mid since (seen++[q.2.1]) ck)) K):SpL P N ops fr H K o r:=by
 refine SpL.ofX ?_ ?_ ?_ ?_
 ·rw [ho];rfl
 ·rw [ho];rfl
 ·rw [ho];rfl
 ·unfold awX;rw [ho];exact ⟨rfl,SpA.next (K:=fun fr' H'=>awL P N ops r fr' H' K) ho hd hx hi hm hb hsl h1 h2⟩
theorem SpL.range {ops:Array Oper} {r:List Oper} {x:Operand} {xt kt et mid t ck:Nat} {l:List (ByteArray×Nat×AV)} (ho:o.op= .range xt x) (hd:dok o.dst N=true) (htk:tk P xt= .map kt et) (hx:evA fr x= .mp mid) (hm:hget H mid=some (.gmap t ck l))
  (h:awL P N ops r (fput fr o.dst (.ptr (hnew H) 0)) ((hnew H, .iter mid ck [] ck)::H) K):SpL P N ops fr H K o r:=by
 refine SpL.ofX ?_ ?_ ?_ ?_
 ·rw [ho];rfl
 ·rw [ho];rfl
 ·rw [ho];rfl
 ·unfold awX;rw [ho];exact ⟨rfl,SpA.range (K:=fun fr' H'=>awL P N ops r fr' H' K) ho hd htk hx hm h⟩
theorem SpL.insert {ops:Array Oper} {r:List Oper} {t:Nat} {m k x:Operand} {id:Nat} {ob:AObj} (ho:o.op= .insert t m k x) (hd:dok o.dst N=true) (hs:muF P H t (evA fr m) (evA fr k) (evA fr x)=some (id,ob)) (h:awL P N ops r (fput fr o.dst .any) (hset H id ob) K):SpL P N ops fr H K o r:=by
 refine SpL.ofX ?_ ?_ ?_ ?_
 ·rw [ho];rfl
 ·rw [ho];rfl
 ·rw [ho];rfl
 ·unfold awX;rw [ho];exact ⟨rfl,SpA.insert (K:=fun fr' H'=>awL P N ops r fr' H' K) ho hd hs h⟩
theorem SpL.makeMap {ops:Array Oper} {r:List Oper} {t kt et:Nat} {x:Operand} {n:Int} (ho:o.op= .makeMap t (some x)) (hd:dok o.dst N=true) (htk:tk P t= .map kt et) (hr:evA fr x=I n) (h:awL P N ops r (fput fr o.dst (.mp (hnew H))) ((hnew H,mkM P t)::H) K):SpL P N ops fr H K o r:=by
 refine SpL.ofX ?_ ?_ ?_ ?_
 ·rw [ho];rfl
 ·rw [ho];rfl
 ·rw [ho];rfl
 ·unfold awX;rw [ho];exact ⟨rfl,SpA.makeMap (K:=fun fr' H'=>awL P N ops r fr' H' K) ho hd htk hr h⟩
end
end Go.Proofs.YtmdjdekgakidhaaGreatDoor
set_option linter.unusedSimpArgs false
set_option linter.unusedVariables false
namespace Go.Proofs.YtmdjdekgakidhaaGreatDoor
open Go Go.RowKit
set_option maxRecDepth 100000
set_option maxHeartbeats 8000000
def yn2:List (List Nat):=[[17,18,19,20,21,22],[17,18,19,20,21,22],[15,16,18,19],[15,16,17],[15,16,17],[15,16],[15,16],[15,16],[],[]]
theorem Wk.frz (ids:List Nat) {fr fr':Fr} {H H':Hp} (h1:yd0 (hsel H ids) fr) (h2:ydb (hsel H ids) H) (hfr:frzF (hsel H ids) fr=fr') (hH:frzH (hsel H ids) H=H'):Wk fr H fr' H':=by
 subst hfr;subst hH
 exact fun _ _ _ _ _ ρ _ hs=>⟨ρ,hs.freeze (fun i o=>yg4 i o) h1 h2⟩
theorem yp7: ∀(ts:List Int) (r:ByteArray),(ts.foldl (fun r n=>r.push (UInt8.ofNat n.toNat)) r).data.toList=r.data.toList++ts.map fun t=>UInt8.ofNat t.toNat
 |[],r=>by simp
 |t::ts,r=>by
  rw [List.foldl_cons,yp7 ts]
  simp [ByteArray.push]
def pS (T:List Nat):ByteArray:=strB (T.map fun (i:Nat)=>(97:Int)+i)
theorem you (T:List Nat):(pS T).data.toList=T.map fun i=>UInt8.ofNat (97+i):=by
 unfold pS strB
 rw [yp7]
 simp only [ByteArray.data_empty,Array.toList_empty,List.nil_append,List.map_map]
 exact List.map_congr_left fun i _=>by
  simp only [Function.comp]
  congr 1
theorem y7n (T:List Nat):(pS T).size=T.length:=by
 have:=congrArg List.length (you T)
 simpa using this
theorem pS_at {T:List Nat} {x:Nat} (h:x<T.length) (hb:T.getD x 0<100):(((pS T).data.toList.getD x 0).toNat:Int)=97+(T.getD x 0:Nat):=by
 rw [you]
 simp only [List.getD_eq_getElem?_getD,List.getElem?_map,List.getElem?_eq_getElem h,Option.map_some,Option.getD_some] at hb⊢
 rw [UInt8.toNat_ofNat']
 omega
def arcV (cnt:Nat) (T:List Nat) (J:List Int) (x:Nat):Int:=if x<cnt then (T.getD x 0:Nat) else cnt+J.getD (x-cnt) 0
abbrev y5e (cnt:Nat) (glue index ends:List Int):Cs:= .lst [I cnt,roI glue,roI index,roI ends]
attribute [go_sem] y5e
theorem y90 (cnt x:Nat) (glue index ends:List Int) (T:List Nat) (J:List Int) (hT:T.length=cnt) (hb: ∀i∈T,i<100) (hJ:J.length=4) (hJr: ∀i,0<=J.getD i 0/\J.getD i 0<=3) (hx:x<cnt+4) (hc:cnt<=1000):
  Fn Tryz.prog 156 [I x, .rp (y5e cnt glue index ends) 0, .rp (.lst [.str (pS T)]) 0, .rp (.lst (J.map (AV.int .i64))) 0] (I (arcV cnt T J x)):=by
 by_cases h:x<cnt
 ·have b0:decide ((x:Int)<cnt)=true:=by simp;omega
  have hTb:T.getD x 0<100:=by
   rw [List.getD_eq_getElem?_getD,List.getElem?_eq_getElem (show x<T.length by omega)]
   exact hb _ (List.getElem_mem _)
  have e1:=pS_at (T:=T) (x:=x) (by omega) hTb
  have e2:=y7n T
  unfold arcV
  rw [if_pos h]
  have w1:IntKind.u8.wrap (97+((T.getD x 0:Nat):Int)-97)=((T.getD x 0:Nat):Int):=by rw [IntWalk.u8_in _ (by omega)];omega
  have w2:IntKind.i64.wrap ((T.getD x 0:Nat):Int)=((T.getD x 0:Nat):Int):=IntWalk.i64_in _ (by omega)
  refine Fn.intro [.tmp 5] Tryz.func156 rfl rfl (by decide) (by simp [Tryz.ntmps156]) ?_;rw [Tryz.ntmps156]
  repeat' (first|omega|(first|apply yaa|(refine yae.intro (id:=3) yn2 [[],[],[0,1],[0,1,2],[0,1,2],[0,1],[0,1],[0,1],[],[]] (by decide+kernel) mixed ?_)|skip);simp only [go_sem,sevalprocAttr,b0,e1,e2,w1,w2,Int.toNat_natCast,↓reduceIte,reduceCtorEq,yn2]|apply yad<;>(intro h_;(try simp only [h_]);revert h_)|apply yac|apply yab|apply gspI|apply And.intro|with_reducible intro h_|trivial|simp only [go_sem,la2];omega)
 ·have b0:decide ((x:Int)<cnt)=false:=by simp;omega
  unfold arcV
  rw [if_neg h]
  have e1:((x:Int)-cnt).toNat=x-cnt:=by omega
  have e2:(J.map (AV.int .i64)).getD (x-cnt) .any=I (J.getD (x-cnt) 0):=by
   have:x-cnt<J.length:=by omega
   simp [List.getD_eq_getElem?_getD,this]
  have hr:=hJr (x-cnt)
  refine Fn.intro [.tmp 5] Tryz.func156 rfl rfl (by decide) (by simp [Tryz.ntmps156]) ?_;rw [Tryz.ntmps156]
  repeat' (first|omega|(first|apply yaa|(refine yae.intro (id:=3) yn2 [[],[],[0,1],[0,1,2],[0,1,2],[0,1],[0,1],[0,1],[],[]] (by decide+kernel) mixed ?_)|skip);simp only [go_sem,sevalprocAttr,b0,e1,e2,Int.toNat_natCast,List.length_map,hJ,↓reduceIte,reduceCtorEq,yn2]|apply yad<;>(intro h_;(try simp only [h_]);revert h_)|apply yac|apply yab|apply gspI|apply And.intro|with_reducible intro h_|trivial|simp only [go_sem,la2];omega)
def tmsK (cs:List Int) (k:Nat):List Int:=(List.range (cs.length+2)).map fun i=>(if i<k then-(cs.getD i 0) else 0)-(if 2<=i/\i-2<k then cs.getD (i-2) 0 else 0)
theorem yel (cs:List Int) (k:Nat):(tmsK cs k).length=cs.length+2:=by simp [tmsK]
theorem y91 (cs:List Int):tmsK cs 0=List.replicate (cs.length+2) 0:=by
 apply List.ext_getElem?
 intro i
 by_cases h:i<cs.length+2<;>simp [tmsK,h]
theorem ygn (cs:List Int) (k i:Nat) (h:i<cs.length+2):(tmsK cs k).getD i 0=(if i<k then-(cs.getD i 0) else 0)-(if 2<=i/\i-2<k then cs.getD (i-2) 0 else 0):=by
 simp [tmsK,List.getD_eq_getElem?_getD,h]
theorem yz2 (cs:List Int) (k:Nat) (hk:k<cs.length):((tmsK cs k).set k ((tmsK cs k).getD k 0-cs.getD k 0)).set (k+2) ((tmsK cs k).getD (k+2) 0-cs.getD k 0)=tmsK cs (k+1):=by
 rw [ygn _ _ _ (by omega),ygn _ _ _ (by omega)]
 apply List.ext_getElem?
 intro i
 rw [List.getElem?_set,List.getElem?_set]
 simp only [List.length_set,yel]
 by_cases h2:k+2=i
 ·subst h2
  rw [if_pos rfl,if_pos (by omega)]
  simp [tmsK,show k+2<cs.length+2 by omega]
  omega
 ·rw [if_neg h2]
  by_cases h1:k=i
  ·subst h1
   rw [if_pos rfl,if_pos (by omega)]
   simp only [tmsK,List.getElem?_map,List.getElem?_range (show k<cs.length+2 by omega),Option.map_some]
   congr 1
   by_cases h3:2<=k/\k-2<k
   ·rw [if_neg (by omega),if_pos h3,if_pos (by omega),if_pos (by omega)];omega
   ·rw [if_neg (by omega),if_neg h3,if_pos (by omega),if_neg (by omega)];omega
  ·rw [if_neg h1]
   by_cases hi:i<cs.length+2
   ·simp only [tmsK,List.getElem?_map,List.getElem?_range hi,Option.map_some]
    congr 1
    have e1:(i<k)=(i<k+1):=propext ⟨fun h=>by omega,fun h=>by omega⟩
    have e2:(2<=i/\i-2<k)=(2<=i/\i-2<k+1):=propext ⟨fun h=>⟨h.1,by omega⟩,fun h=>⟨h.1,by omega⟩⟩
    simp only [e1,e2]
   ·rw [List.getElem?_eq_none (by rw [yel];omega),List.getElem?_eq_none (by rw [yel];omega)]
abbrev tpA (lo:Int) (cs:List Int):AV:= .agg [I lo,roI cs]
attribute [go_sem] tpA
theorem yr2 (lo:Int) (cs:List Int) (hlo: -100000<=lo/\lo<=100000) (hl:cs.length<=100000) (hc: ∀i,-1152921504606846976<=cs.getD i 0/\cs.getD i 0<=1152921504606846976):Fn Tryz.prog 144 [tpA lo cs] (tpA (lo-2) (tmsK cs cs.length)):=by
 refine Fn.introL [.cell 2 137] Tryz.func144 rfl rfl (by decide) (by simp [Tryz.ntmps144]) ?_;rw [Tryz.ntmps144]
 repeat' (first|omega|(try apply yaa);simp only [go_sem,sevalprocAttr]|apply yad<;>(intro h_;(try simp only [h_]);revert h_)|apply yac|apply yab|apply gspI|apply And.intro|with_reducible intro h_|trivial|simp only [go_sem,la2];omega)
 refine yai.intro (fun n fr H=> ∃k:Nat,k<=cs.length/\n=cs.length-k/\fr=[(14,I k),(13,I cs.length),(12,roI cs),(3, .sl 1 2 0 (cs.length+2)),(2, .ptr 1 0),(1, .ptr 0 0)]/\H=[(2, .cells 3 (.ints (tmsK cs k))),(1, .cells 137 (.lst [I 0, .nils])),(0, .cells 137 (.lst [I lo,roI cs]))]) ?_ ?_
 ·refine ⟨_,_,_,?_,0,by omega,rfl,rfl,rfl⟩
  rw [y91]
  have e0:((cs.length:Int)+2).toNat=cs.length+2:=by omega
  refine Wk.sub ?_ ?_<;>(simp only [go_sem,sevalprocAttr,e0])
 rintro n fr H ⟨k,hk,rfl,rfl,rfl⟩
 have tl:=yel cs k
 by_cases hkl:k<cs.length
 ·have bk:decide ((k:Int)<cs.length)=true:=by simp;omega
  have hst:=yz2 cs k hkl
  have a1:=ygn cs k k (by omega)
  have a2:=ygn cs k (k+2) (by omega)
  rw [if_neg (by omega)] at a1
  rw [if_neg (by omega),if_neg (by omega)] at a2
  have c0:=hc k
  have c2:=hc (k-2)
  have h1: -1152921504606846976<=(tmsK cs k).getD k 0/\(tmsK cs k).getD k 0<=1152921504606846976:=by rw [a1];split<;>omega
  have h2:(tmsK cs k).getD (k+2) 0=0:=by rw [a2];rfl
  have e1:((k:Int)+2).toNat=k+2:=by omega
  have e2:((tmsK cs k).set k ((tmsK cs k).getD k 0-cs.getD k 0)).getD (k+2) 0=(tmsK cs k).getD (k+2) 0:=by simp [List.getD_eq_getElem?_getD,List.getElem?_set,show¬k=k+2 by omega]
  generalize tmsK cs k=R at*
  repeat' (first|omega|(try apply yaa);simp only [go_sem,sevalprocAttr,bk,e1,e2,tl,hst,List.length_set]|apply yad<;>(intro h_;(try simp only [h_]);revert h_)|apply yac|apply yab|apply gspI|apply And.intro|with_reducible intro h_|trivial|simp only [go_sem,la2];omega)
  refine ⟨_,_,_,?_,?_,⟨k+1,by omega,rfl,rfl,rfl⟩⟩
  ·omega
  ·refine Wk.sub ?_ ?_<;>simp only [go_sem,sevalprocAttr]
   all_goals simp_all
 ·obtain rfl:k=cs.length:=by omega
  have bk:decide ((cs.length:Int)<cs.length)=false:=by simp
  repeat' (first|omega|(try apply yaa);simp only [go_sem,sevalprocAttr,bk,tl]|apply yad<;>(intro h_;(try simp only [h_]);revert h_)|apply yac|apply yab|apply gspI|apply And.intro|with_reducible intro h_|trivial|simp only [go_sem,la2];omega)
  all_goals (rw [List.take_of_length_le (by omega)];exact LeA.of (by simp [tl]))
end Go.Proofs.YtmdjdekgakidhaaGreatDoor
