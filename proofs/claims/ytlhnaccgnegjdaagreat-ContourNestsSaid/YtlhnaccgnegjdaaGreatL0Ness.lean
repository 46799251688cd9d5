import Derived.Test.YtlhnaccgnegjdaaGreatSc6Ness
import Derived.Test.YtlhnaccgnegjdaaGreatExtNess
import Derived.Test.YtlhnaccgnegjdaaGreatShortNess
import Derived.KernelRfl
set_option linter.all false
set_option linter.unusedVariables false
namespace Go.L
open Go Go.Eng Go.Proofs
theorem G:qJ Tryz.prog:=⟨Go.Proofs.YtlhnaccgnegjdaaGreat.Jc,by kernel_rfl⟩
theorem Dq:∀g:List Int,Go.Proofs.YtlhnaccgnegjdaaGreat.DV (g.flatMap (iC .u32))=some g
 |[]=>rfl
 |x::g=>by
  show(match Go.Proofs.YtlhnaccgnegjdaaGreat.DV (g.flatMap (iC .u32))with|some r=>some (x::r)|none=>none)=some (x::g);rw[Dq g]
theorem sY{g:List Int}(h:decide (g.length<=1099511627776)=true):Go.Proofs.YtlhnaccgnegjdaaGreat.rR (slT (iC .u32) g)=some g:=by
 unfold Go.Proofs.YtlhnaccgnegjdaaGreat.rR slT;have h1:decide ((g.flatMap (iC .u32)).length=g.length)=true:=by rw[decide_eq_true_eq,nw (aH _)];omega
 simp only[h1,h,Bool.and_self];exact Dq g
theorem kV(n:Nat)(g:List Int)(r:Int×Bool)(hr:iG n g=some r):aO Tryz.prog 167 [slT (iC .u32) g] (.tup [.at (.int .u64 r.1),.at (.bool r.2)]):=by
 unfold iG at hr;obtain⟨h,hr⟩:=gd hr;refine aO.Cc Go.Proofs.YtlhnaccgnegjdaaGreat.qP ?_;unfold Go.Proofs.YtlhnaccgnegjdaaGreat.C3;simp only[sY h];cases hd:decide (g.length>2)with
 |true=>rw[hd]at hr;cases hr;rfl
 |false=>rw[hd]at hr;cases hr;rfl
theorem CB:∀a b:List Int,rD a b=Go.Proofs.YtlhnaccgnegjdaaGreat.rD a b
 |[],_=>by cases ‹List Int›<;>rfl
 |_::_,[]=>rfl
 |x::a,y::b=>by
  simp only[rD,Go.Proofs.YtlhnaccgnegjdaaGreat.rD,CB a b];rfl
theorem lD(n:Nat)(a b:List Int)(r:Int)(hr:fW n a b=some r):aO Tryz.prog 166 [slT (iC .u32) a,slT (iC .u32) b] (.at (.int .i64 r)):=by
 unfold fW at hr;obtain⟨h,hr⟩:=gd hr;obtain⟨h',hr⟩:=gd hr;refine aO.Cc Go.Proofs.YtlhnaccgnegjdaaGreat.mT ?_;unfold Go.Proofs.YtlhnaccgnegjdaaGreat.GG;simp only[sY h,sY h'];cases hd:decide (a.length=b.length)with
 |true=>rw[hd]at hr;cases hr;simp only[cond_true,CB]
 |false=>rw[hd]at hr;cases hr;rfl
theorem mQ(n:Nat)(a:List Int)(d:Int)(r:List Int×Int)(hr:fB n a d=some r):aO Tryz.prog 180 [slT (iC .u32) a,.at (.int .u32 d)] (.tup [slT (iC .u32) r.1,.at (.int .u32 r.2)]):=by
 unfold fB at hr;obtain⟨h,hr⟩:=gd hr;obtain⟨h1,hr⟩:=gd hr;obtain⟨h2,hr⟩:=gd hr;refine aO.Cc Go.Proofs.YtlhnaccgnegjdaaGreat.oT ?_;unfold Go.Proofs.YtlhnaccgnegjdaaGreat.Cs;simp only[sY h,h1,h2,Bool.and_self];cases hr;rfl
end Go.L
