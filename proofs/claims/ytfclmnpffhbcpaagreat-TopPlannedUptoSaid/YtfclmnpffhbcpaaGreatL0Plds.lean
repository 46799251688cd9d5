import Derived.Test.YtfclmnpffhbcpaaGreatSc6Plds
import Derived.Test.YtfclmnpffhbcpaaGreatExtPlds
import Derived.Test.YtfclmnpffhbcpaaGreatShortPlds
import Derived.KernelRfl
set_option linter.all false
set_option linter.unusedVariables false
namespace Go.L
open Go Go.Eng Go.Proofs
theorem G:rq Tryz.prog:=⟨Go.Proofs.YtfclmnpffhbcpaaGreat.Hh,by kernel_rfl⟩
theorem Cx:∀g:List Int,Go.Proofs.YtfclmnpffhbcpaaGreat.De (g.flatMap (iC .u32))=some g
 |[]=>rfl
 |x::g=>by
  show(match Go.Proofs.YtfclmnpffhbcpaaGreat.De (g.flatMap (iC .u32))with|some r=>some (x::r)|none=>none)=some (x::g);rw[Cx g]
theorem tu{g:List Int}(h:decide (g.length<=1099511627776)=true):Go.Proofs.YtfclmnpffhbcpaaGreat.sB (slT (iC .u32) g)=some g:=by
 unfold Go.Proofs.YtfclmnpffhbcpaaGreat.sB slT;have h1:decide ((g.flatMap (iC .u32)).length=g.length)=true:=by rw[decide_eq_true_eq,jK (aR _)];omega
 simp only[h1,h,Bool.and_self];exact Cx g
theorem mb(n:Nat)(g:List Int)(r:Int×Bool)(hr:je n g=some r):aU Tryz.prog 122 [slT (iC .u32) g] (.tup [.at (.int .u64 r.1),.at (.bool r.2)]):=by
 unfold je at hr;obtain⟨h,hr⟩:=gd hr;refine aU.Bd Go.Proofs.YtfclmnpffhbcpaaGreat.rB ?_;unfold Go.Proofs.YtfclmnpffhbcpaaGreat.Cu;simp only[tu h];cases hd:decide (g.length>2)with
 |true=>rw[hd]at hr;cases hr;rfl
 |false=>rw[hd]at hr;cases hr;rfl
theorem Cp:∀a b:List Int,rX a b=Go.Proofs.YtfclmnpffhbcpaaGreat.rX a b
 |[],_=>by cases ‹List Int›<;>rfl
 |_::_,[]=>rfl
 |x::a,y::b=>by
  simp only[rX,Go.Proofs.YtfclmnpffhbcpaaGreat.rX,Cp a b];rfl
theorem mg(n:Nat)(a b:List Int)(r:Int)(hr:gM n a b=some r):aU Tryz.prog 121 [slT (iC .u32) a,slT (iC .u32) b] (.at (.int .i64 r)):=by
 unfold gM at hr;obtain⟨h,hr⟩:=gd hr;obtain⟨h',hr⟩:=gd hr;refine aU.Bd Go.Proofs.YtfclmnpffhbcpaaGreat.nB ?_;unfold Go.Proofs.YtfclmnpffhbcpaaGreat.Fm;simp only[tu h,tu h'];cases hd:decide (a.length=b.length)with
 |true=>rw[hd]at hr;cases hr;simp only[cond_true,Cp]
 |false=>rw[hd]at hr;cases hr;rfl
theorem nA(n:Nat)(a:List Int)(d:Int)(r:List Int×Int)(hr:gj n a d=some r):aU Tryz.prog 163 [slT (iC .u32) a,.at (.int .u32 d)] (.tup [slT (iC .u32) r.1,.at (.int .u32 r.2)]):=by
 unfold gj at hr;obtain⟨h,hr⟩:=gd hr;obtain⟨h1,hr⟩:=gd hr;obtain⟨h2,hr⟩:=gd hr;refine aU.Bd Go.Proofs.YtfclmnpffhbcpaaGreat.pC ?_;unfold Go.Proofs.YtfclmnpffhbcpaaGreat.Bo;simp only[tu h,h1,h2,Bool.and_self];cases hr;rfl
end Go.L
