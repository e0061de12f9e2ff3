/- Plain: the laws of the HOMFLY polynomial in one exponent. -/
import Derived.Test.YtjpbeacamoijhaaDoorZt
namespace Go.Proofs.YtjpbeacamoijhaaDoor
set_option linter.unusedSimpArgs false
set_option linter.unusedVariables false
namespace Hs
section
variable {s m:List Int} {l:Nat}
theorem skE1 {c l':Nat} (hv:yai s m l=true) (hc:c<s.length) (hl':smLp s m c l=l') (hv':yai (smS s c) (smM s m c) l'=true) (hw:yai (swS s c) (swM s m c) l=true) (hn:s.length+l<=300) (hn':(smS s c).length+l'<=1000) (hn2:(swS s c).length=s.length) (hs:s.getD c 0=1) (e:Int):
  hfE s m l (e-bvE (-1) 0)-hfE (swS s c) (swM s m c) l (e-bvE 1 0)=hfE (smS s c) (smM s m c) l' (e-bvE 0 1):=by
 rw [ye7 (yal hv) (by omega) (by rw [ybk (by omega)];omega),ye7 (yal hw) (by omega) (by rw [ybk (by omega)];omega),ye7 (yal hv') hn' (by rw [ybk (by omega)];omega)]
 rw [ycu (by omega),ybk (by omega),ycu (by omega),ybk (by omega),ycu (by omega),ybk (by omega)]
 have:=(yi4 hv hc (by rw [hl'];exact hv') (bvA e) (bvZ e)).1 hs
 rw [hl'] at this
 simp only [Int.sub_zero,Int.sub_neg]
 omega
theorem skE2 {c l':Nat} (hv:yai s m l=true) (hc:c<s.length) (hl':smLp s m c l=l') (hv':yai (smS s c) (smM s m c) l'=true) (hw:yai (swS s c) (swM s m c) l=true) (hn:s.length+l<=300) (hn':(smS s c).length+l'<=1000) (hn2:(swS s c).length=s.length) (hs:s.getD c 0= -1) (e:Int):
  hfE (swS s c) (swM s m c) l (e-bvE (-1) 0)-hfE s m l (e-bvE 1 0)=hfE (smS s c) (smM s m c) l' (e-bvE 0 1):=by
 rw [ye7 (yal hw) (by omega) (by rw [ybk (by omega)];omega),ye7 (yal hv) (by omega) (by rw [ybk (by omega)];omega),ye7 (yal hv') hn' (by rw [ybk (by omega)];omega)]
 rw [ycu (by omega),ybk (by omega),ycu (by omega),ybk (by omega),ycu (by omega),ybk (by omega)]
 have:=(yi4 hv hc (by rw [hl'];exact hv') (bvA e) (bvZ e)).2 hs
 rw [hl'] at this
 simp only [Int.sub_zero,Int.sub_neg]
 omega
end
section
variable {s1 m1 s2 m2:List Int} {l1 l2:Nat}
end
end Hs
end Go.Proofs.YtjpbeacamoijhaaDoor
