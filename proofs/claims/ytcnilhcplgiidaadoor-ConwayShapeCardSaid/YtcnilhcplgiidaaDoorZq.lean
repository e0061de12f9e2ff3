/- Operations with laws of their own: literals of maps and arrays, bytes to a string. -/
import Derived.Test.YtcnilhcplgiidaaDoorZp
import Derived.Laws.BytesString
import Derived.Test.YtcnilhcplgiidaaDoorZd
import Derived.Test.YtcnilhcplgiidaaDoorZf
set_option linter.unusedSimpArgs false
set_option linter.unusedVariables false
namespace Go.Proofs.YtcnilhcplgiidaaDoor
open Go Go.RowKit
set_option linter.unusedVariables false
section
variable {P:Program} {N:Nat} {fr:Fr} {H:Hp} {K:Fr->Hp->Prop} {o:Oper}
theorem SpA.makeMap {t kt et:Nat} {r:Operand} {n:Int} (ho:o.op= .makeMap t (some r)) (hd:dok o.dst N=true) (htk:tk P t= .map kt et) (hr:evA fr r=I n) (h:K (fput fr o.dst (.mp (hnew H))) ((hnew H,mkM P t)::H)):SpA P N o K fr H:=by
 intro B w0 Mx w ρ a hs Q
 have er:=(hr▸hs.ev r).int_inv
 have hn:hget H (hnew H)=none:=yfb (Nat.le_refl _)
 have hrun:(execOp a.eval o).run P w= .ok (.value (.map (some w.heap.size))) (w.alloc (.map #[] 0)):=by
  simp only [execOp,ho]
  simp [Instr.makeMap,run_underlying (yco htk),asInt,asIntOf,newObj,Sem.run,er]
 have hs2:=hs.alloc (hnew H) hn (.map #[] 0) (mkM P t) fun M' ρ' D' hr _=>by
  rcases yla P t with e|e|e|e|e<;>rw [e]
  ·exact ⟨by simp, #[],0,by rw [hr];exact ya7,rfl,by simp⟩
  ·exact ⟨[], #[],0,by rw [hr];exact ya7,rfl,fun _=>rfl⟩
  ·exact ⟨[], #[],0,by rw [hr];exact ya7,rfl,fun _=>rfl⟩
  ·exact ⟨#[],by rw [hr];exact ya7,rfl,fun j e q he=>by simp at he⟩
  ·exact ⟨[], #[],0,by rw [hr];exact ya7,rfl,fun _=>rfl⟩
 refine Oper.wp_value hrun ⟨_,_,_,h,hs2.put hd ?_⟩
 have:=VR.mp (w:=w.alloc (.map #[] 0)) (M:=MM Mx ((hnew H,mkM P t)::H) (upd ρ (hnew H) ⟨w.heap.size,0,none⟩)) (ρ:=upd ρ (hnew H) ⟨w.heap.size,0,none⟩) (D:=DD ((hnew H,mkM P t)::H)) (hnew H) yf4
 rwa [yav] at this
theorem SpL.ofX {ops:Array Oper} {r:List Oper} (hc:cvOk P o.op=true) (hq:quF P H (evA fr) o.op=none) (ha:alF P (hnew H) (evA fr) o.op=none) (hx:awX P N o fr H fun fr' H'=>awL P N ops r fr' H' K):SpL P N ops fr H K o r:=⟨awO.of hc hq ha hx⟩
theorem SpL.makeMap {ops:Array Oper} {r:List Oper} {t kt et:Nat} {x:Operand} {n:Int} (ho:o.op= .makeMap t (some x)) (hd:dok o.dst N=true) (htk:tk P t= .map kt et) (hr:evA fr x=I n) (h:awL P N ops r (fput fr o.dst (.mp (hnew H))) ((hnew H,mkM P t)::H) K):SpL P N ops fr H K o r:=by
 refine SpL.ofX ?_ ?_ ?_ ?_
 ·rw [ho];rfl
 ·rw [ho];rfl
 ·rw [ho];rfl
 ·unfold awX;rw [ho];exact ⟨rfl,SpA.makeMap (K:=fun fr' H'=>awL P N ops r fr' H' K) ho hd htk hr h⟩
end
end Go.Proofs.YtcnilhcplgiidaaDoor
namespace Go.Proofs.YtcnilhcplgiidaaDoor
open Go Go.RowKit
set_option maxRecDepth 100000
set_option maxHeartbeats 8000000
set_option linter.unusedVariables false
set_option linter.unusedSimpArgs false
def at1 (k h:Int) (g:Int->Option (Int×Int)):Int->Option (Int×Int):=if h % 2=0 then updP g (h/4) k ((g (h/4)).getD (0,0)).2 else updP g (h/4) ((g (h/4)).getD (0,0)).1 k
def atN (k:Int) (l:List Int) (g:Int->Option (Int×Int)):Nat->Int->Option (Int×Int)
 |0=>g
 |j+1=>at1 k (l.getD j 0) (atN k l g j)
def atL (ls:List (List Int)):Nat->Int->Option (Int×Int)
 |0=>fun _=>none
 |k+1=>atN k (ls.getD k []) (atL ls k) (ls.getD k []).length
theorem yl1 (s m:List Int) (L:Int) (hv:yaj s m L=true):FnO Tryd.prog 68 [dgA s m L] (.mp 1) [(1, .fmap 91 (.pairs (atL (yae s m) (yae s m).length)))]:=by
 have hS:=ygy s m L
 unfold yd6 at hS
 rw [hv,if_pos rfl] at hS
 have v1:=yat hv
 have h64:=v1.s64
 have hl:=v1.len
 have hsl:=ydx s m
 have hmem:=fun l (hl:l∈yae s m)=>ydy v1.prd hl
 refine FnO.intro [.tmp 2] Tryd.func68 rfl rfl (by decide) (by simp [Tryd.ntmps68]) ?_;rw [Tryd.ntmps68]
 repeat' (first|omega|(try apply yaa);simp only [go_sem,sevalprocAttr]|apply yad<;>(intro h_;(try simp only [h_]);revert h_)|apply yac|apply yab|apply gspI|apply And.intro|with_reducible intro h_|trivial|simp only [go_sem,la2];omega)
 refine SpL.makeMap (n:=(s.length:Int)) (kt:=3) (et:=93) rfl rfl (by simp only [go_sem,sevalprocAttr]) rfl ?_
 repeat' (first|omega|(try apply yaa);simp only [go_sem,sevalprocAttr]|apply yad<;>(intro h_;(try simp only [h_]);revert h_)|apply yac|apply yab|apply gspI|apply And.intro|with_reducible intro h_|trivial|simp only [go_sem,la2];omega)
 refine ⟨yag.fn rfl hS ?_⟩
 repeat' (first|omega|(try apply yaa);simp only [go_sem,sevalprocAttr]|apply yad<;>(intro h_;(try simp only [h_]);revert h_)|apply yac|apply yab|apply gspI|apply And.intro|with_reducible intro h_|trivial|simp only [go_sem,la2];omega)
 generalize yae s m=ls at*
 refine ya0.intro (fun n fr H=> ∃i:Nat,i<=ls.length/\n=ls.length-i/\fr=[(16,I i),(15,I ls.length),(14,roLL ls),(3, .mp 1),(1, .ptr 0 0)]/\H=[(1, .fmap 91 (.pairs (atL ls i))),(0, .cells 24 (.lst [roI s,roI m,I L]))]) ?_ ?_
 ·refine ⟨_,_,_,Wk.sub ?_ ?_,0,by omega,rfl,rfl,rfl⟩
  ·simp only [go_sem,sevalprocAttr]
  ·(simp only [go_sem,sevalprocAttr,atL])<;>rfl
 rintro n fr H ⟨i,hi,rfl,rfl,rfl⟩
 by_cases hil:i<ls.length
 ·have bi:decide ((i:Int)<ls.length)=true:=by simpa using hil
  have hg:=ym8 ls i hil
  have hme:=hmem (ls.getD i []) (by simp [hil])
  have eA:atL ls (i+1)=atN i (ls.getD i []) (atL ls i) (ls.getD i []).length:=rfl
  generalize ls.getD i []=l at*
  generalize atL ls i=g0 at*
  repeat' (first|omega|(try apply yaa);simp only [go_sem,sevalprocAttr,hg,bi]|apply yad<;>(intro h_;(try simp only [h_]);revert h_)|apply yac|apply yab|apply gspI|apply And.intro|with_reducible intro h_|trivial|simp only [go_sem,la2];omega)
  refine ya0.intro (fun n fr H=> ∃k:Nat,k<=l.length/\n=l.length-k/\fr=[(23,I k),(22,I l.length),(21,roI l),(4,I i),(16,I i),(15,I ls.length),(14,roLL ls),(3, .mp 1),(1, .ptr 0 0)]/\H=[(1, .fmap 91 (.pairs (atN i l g0 k))),(0, .cells 24 (.lst [roI s,roI m,I L]))]) ?_ ?_
  ·refine ⟨_,_,_,Wk.sub ?_ ?_,0,by omega,rfl,rfl,rfl⟩
   ·simp only [go_sem,sevalprocAttr]
   ·(simp only [go_sem,sevalprocAttr,atN])<;>rfl
  rintro n fr H ⟨k,hk,rfl,rfl,rfl⟩
  by_cases hkl:k<l.length
  ·have bk:decide ((k:Int)<l.length)=true:=by simpa using hkl
   have hx:=hme.2 (l.getD k 0) (by simp [hkl])
   have e1:(l.getD k 0).tdiv 4=l.getD k 0/4:=ych hx.1
   have e2:(l.getD k 0).tmod 2=l.getD k 0 % 2:=ykt hx.1
   have eN:atN i l g0 (k+1)=at1 i (l.getD k 0) (atN i l g0 k):=rfl
   obtain ⟨h,hh⟩: ∃h,l.getD k 0=h:=⟨_,rfl⟩
   rw [hh] at hx e1 e2 eN
   generalize atN i l g0 k=g at*
   by_cases hp:h % 2=0
   ·have e3:at1 i h g=updP g (h/4) i ((g (h/4)).getD (0,0)).2:=if_pos hp
    repeat' (first|omega|(try apply yaa);simp only [go_sem,sevalprocAttr,bk,hh,e1,e2,hp]|apply yad<;>(intro h_;(try simp only [h_]);revert h_)|apply yac|apply yab|apply gspI|apply And.intro|with_reducible intro h_|trivial|simp only [go_sem,la2];omega)
    refine ⟨_,_,_,?_,Wk.sub ?_ ?_,k+1,by omega,rfl,rfl,rfl⟩
    ·omega
    ·simp only [go_sem,sevalprocAttr]
    ·(simp only [go_sem,sevalprocAttr,eN,e3])<;>rfl
   ·have hp1:h % 2=1:=by omega
    have e3:at1 i h g=updP g (h/4) ((g (h/4)).getD (0,0)).1 i:=if_neg hp
    repeat' (first|omega|(try apply yaa);simp only [go_sem,sevalprocAttr,bk,hh,e1,e2,hp1]|apply yad<;>(intro h_;(try simp only [h_]);revert h_)|apply yac|apply yab|apply gspI|apply And.intro|with_reducible intro h_|trivial|simp only [go_sem,la2];omega)
    refine ⟨_,_,_,?_,Wk.sub ?_ ?_,k+1,by omega,rfl,rfl,rfl⟩
    ·omega
    ·simp only [go_sem,sevalprocAttr]
    ·(simp only [go_sem,sevalprocAttr,eN,e3])<;>rfl
  ·obtain rfl:k=l.length:=by omega
   have bk:decide (((l.length:Nat):Int)<l.length)=false:=by simp
   repeat' (first|omega|(try apply yaa);simp only [go_sem,sevalprocAttr,bk]|apply yad<;>(intro h_;(try simp only [h_]);revert h_)|apply yac|apply yab|apply gspI|apply And.intro|with_reducible intro h_|trivial|simp only [go_sem,la2];omega)
   refine ⟨_,_,_,?_,Wk.sub ?_ ?_,i+1,by omega,rfl,rfl,rfl⟩
   ·omega
   ·simp only [go_sem,sevalprocAttr]
   ·(simp only [go_sem,sevalprocAttr,eA])<;>rfl
 ·obtain rfl:i=ls.length:=by omega
  have bi:decide (((ls.length:Nat):Int)<ls.length)=false:=by simp
  repeat' (first|omega|(try apply yaa);simp only [go_sem,sevalprocAttr,bi]|apply yad<;>(intro h_;(try simp only [h_]);revert h_)|apply yac|apply yab|apply gspI|apply And.intro|with_reducible intro h_|trivial|simp only [go_sem,la2];omega)
abbrev smH (s m:List Int) (L:Int) (g:Int->Option (Int×Int)) (f:AV) (t:Int):Hp:=[(5, .cells 3 (.lst [I t])),(4, .cells 91 (.lst [.mp 3])),(3, .fmap 91 (.pairs g)),(1, .cells 61 (.lst [f])),(0, .cells 24 (.lst [roI s,roI m,I L]))]
end Go.Proofs.YtcnilhcplgiidaaDoor
