import Derived.Test.YtglimpjlhfjgdaaGreatSc6Grds
import Derived.Test.YtglimpjlhfjgdaaGreatExtGrds
import Derived.Test.YtglimpjlhfjgdaaGreatShortGrds
import Derived.KernelRfl
set_option linter.all false
set_option linter.unusedVariables false
namespace Go.L
open Go Go.Eng Go.Proofs
theorem G:qB Tryz.prog:=⟨Go.Proofs.YtglimpjlhfjgdaaGreat.I6,by kernel_rfl⟩
theorem BY:∀g:List Int,Go.Proofs.YtglimpjlhfjgdaaGreat.Ci (g.flatMap (iC .u32))=some g
 |[]=>rfl
 |x::g=>by
  show(match Go.Proofs.YtglimpjlhfjgdaaGreat.Ci (g.flatMap (iC .u32))with|some r=>some (x::r)|none=>none)=some (x::g);rw[BY g]
theorem sb{g:List Int}(h:decide (g.length<=1099511627776)=true):Go.Proofs.YtglimpjlhfjgdaaGreat.rj (slT (iC .u32) g)=some g:=by
 unfold Go.Proofs.YtglimpjlhfjgdaaGreat.rj slT;have h1:decide ((g.flatMap (iC .u32)).length=g.length)=true:=by rw[decide_eq_true_eq,mT (aF _)];omega
 simp only[h1,h,Bool.and_self];exact BY g
theorem kL(n:Nat)(g:List Int)(r:Int×Bool)(hr:ie n g=some r):aI Tryz.prog 149 [slT (iC .u32) g] (.tup [.at (.int .u64 r.1),.at (.bool r.2)]):=by
 unfold ie at hr;obtain⟨h,hr⟩:=gd hr;refine aI.AR Go.Proofs.YtglimpjlhfjgdaaGreat.qA ?_;unfold Go.Proofs.YtglimpjlhfjgdaaGreat.BH;simp only[sb h];cases hd:decide (g.length>2)with
 |true=>rw[hd]at hr;cases hr;rfl
 |false=>rw[hd]at hr;cases hr;rfl
theorem Bx:∀a b:List Int,qR a b=Go.Proofs.YtglimpjlhfjgdaaGreat.qR a b
 |[],_=>by cases ‹List Int›<;>rfl
 |_::_,[]=>rfl
 |x::a,y::b=>by
  simp only[qR,Go.Proofs.YtglimpjlhfjgdaaGreat.qR,Bx a b];rfl
theorem kQ(n:Nat)(a b:List Int)(r:Int)(hr:gh n a b=some r):aI Tryz.prog 138 [slT (iC .u32) a,slT (iC .u32) b] (.at (.int .i64 r)):=by
 unfold gh at hr;obtain⟨h,hr⟩:=gd hr;obtain⟨h',hr⟩:=gd hr;refine aI.AR Go.Proofs.YtglimpjlhfjgdaaGreat.ml ?_;unfold Go.Proofs.YtglimpjlhfjgdaaGreat.EY;simp only[sb h,sb h'];cases hd:decide (a.length=b.length)with
 |true=>rw[hd]at hr;cases hr;simp only[cond_true,Bx]
 |false=>rw[hd]at hr;cases hr;rfl
theorem my(n:Nat)(a:List Int)(d:Int)(r:List Int×Int)(hr:fH n a d=some r):aI Tryz.prog 186 [slT (iC .u32) a,.at (.int .u32 d)] (.tup [slT (iC .u32) r.1,.at (.int .u32 r.2)]):=by
 unfold fH at hr;obtain⟨h,hr⟩:=gd hr;obtain⟨h1,hr⟩:=gd hr;obtain⟨h2,hr⟩:=gd hr;refine aI.AR Go.Proofs.YtglimpjlhfjgdaaGreat.nY ?_;unfold Go.Proofs.YtglimpjlhfjgdaaGreat.A9;simp only[sb h,h1,h2,Bool.and_self];cases hr;rfl
end Go.L
