import Derived.Test.YtglimpjlhfjgdaaGreatSc6Slds
import Derived.Test.YtglimpjlhfjgdaaGreatExtSlds
import Derived.Test.YtglimpjlhfjgdaaGreatShortSlds
import Derived.KernelRfl
set_option linter.all false
set_option linter.unusedVariables false
namespace Go.L
open Go Go.Eng Go.Proofs
theorem G:oW Tryz.prog:=⟨Go.Proofs.YtglimpjlhfjgdaaGreat.MI,by kernel_rfl⟩
theorem CO:∀g:List Int,Go.Proofs.YtglimpjlhfjgdaaGreat.DP (g.flatMap (iC .u32))=some g
 |[]=>rfl
 |x::g=>by
  show(match Go.Proofs.YtglimpjlhfjgdaaGreat.DP (g.flatMap (iC .u32))with|some r=>some (x::r)|none=>none)=some (x::g);rw[CO g]
theorem qL{g:List Int}(h:decide (g.length<=1099511627776)=true):Go.Proofs.YtglimpjlhfjgdaaGreat.qo (slT (iC .u32) g)=some g:=by
 unfold Go.Proofs.YtglimpjlhfjgdaaGreat.qo slT;have h1:decide ((g.flatMap (iC .u32)).length=g.length)=true:=by rw[decide_eq_true_eq,lr (aP _)];omega
 simp only[h1,h,Bool.and_self];exact CO g
theorem jA(n:Nat)(g:List Int)(r:Int×Bool)(hr:gx n g=some r):aT Tryz.prog 149 [slT (iC .u32) g] (.tup [.at (.int .u64 r.1),.at (.bool r.2)]):=by
 unfold gx at hr;obtain⟨h,hr⟩:=gd hr;refine aT.Ct Go.Proofs.YtglimpjlhfjgdaaGreat.pj ?_;unfold Go.Proofs.YtglimpjlhfjgdaaGreat.CL;simp only[qL h];cases hd:decide (g.length>2)with
 |true=>rw[hd]at hr;cases hr;rfl
 |false=>rw[hd]at hr;cases hr;rfl
theorem Dg:∀a b:List Int,pP a b=Go.Proofs.YtglimpjlhfjgdaaGreat.pP a b
 |[],_=>by cases ‹List Int›<;>rfl
 |_::_,[]=>rfl
 |x::a,y::b=>by
  simp only[pP,Go.Proofs.YtglimpjlhfjgdaaGreat.pP,Dg a b];rfl
theorem jI(n:Nat)(a b:List Int)(r:Int)(hr:fg n a b=some r):aT Tryz.prog 138 [slT (iC .u32) a,slT (iC .u32) b] (.at (.int .i64 r)):=by
 unfold fg at hr;obtain⟨h,hr⟩:=gd hr;obtain⟨h',hr⟩:=gd hr;refine aT.Ct Go.Proofs.YtglimpjlhfjgdaaGreat.kB ?_;unfold Go.Proofs.YtglimpjlhfjgdaaGreat.GV;simp only[qL h,qL h'];cases hd:decide (a.length=b.length)with
 |true=>rw[hd]at hr;cases hr;simp only[cond_true,Dg]
 |false=>rw[hd]at hr;cases hr;rfl
theorem kz(n:Nat)(a:List Int)(d:Int)(r:List Int×Int)(hr:eH n a d=some r):aT Tryz.prog 186 [slT (iC .u32) a,.at (.int .u32 d)] (.tup [slT (iC .u32) r.1,.at (.int .u32 r.2)]):=by
 unfold eH at hr;obtain⟨h,hr⟩:=gd hr;obtain⟨h1,hr⟩:=gd hr;obtain⟨h2,hr⟩:=gd hr;refine aT.Ct Go.Proofs.YtglimpjlhfjgdaaGreat.tx ?_;unfold Go.Proofs.YtglimpjlhfjgdaaGreat.By;simp only[qL h,h1,h2,Bool.and_self];cases hr;rfl
end Go.L
