import Derived.Test.YtfhhaadcodofnaaGreatSc6Chks
import Derived.Test.YtfhhaadcodofnaaGreatExtChks
import Derived.Test.YtfhhaadcodofnaaGreatShortChks
import Derived.KernelRfl
set_option linter.all false
set_option linter.unusedVariables false
namespace Go.L
open Go Go.Eng Go.Proofs
theorem G:rA Tryz.prog:=⟨Go.Proofs.YtfhhaadcodofnaaGreat.JZ,by kernel_rfl⟩
theorem Di:∀g:List Int,Go.Proofs.YtfhhaadcodofnaaGreat.Ei (g.flatMap (iC .u32))=some g
 |[]=>rfl
 |x::g=>by
  show(match Go.Proofs.YtfhhaadcodofnaaGreat.Ei (g.flatMap (iC .u32))with|some r=>some (x::r)|none=>none)=some (x::g);rw[Di g]
theorem tg{g:List Int}(h:decide (g.length<=1099511627776)=true):Go.Proofs.YtfhhaadcodofnaaGreat.sE (slT (iC .u32) g)=some g:=by
 unfold Go.Proofs.YtfhhaadcodofnaaGreat.sE slT;have h1:decide ((g.flatMap (iC .u32)).length=g.length)=true:=by rw[decide_eq_true_eq,nJ (aN _)];omega
 simp only[h1,h,Bool.and_self];exact Di g
theorem lP(n:Nat)(g:List Int)(r:Int×Bool)(hr:jc n g=some r):aQ Tryz.prog 141 [slT (iC .u32) g] (.tup [.at (.int .u64 r.1),.at (.bool r.2)]):=by
 unfold jc at hr;obtain⟨h,hr⟩:=gd hr;refine aQ.CR Go.Proofs.YtfhhaadcodofnaaGreat.qH ?_;unfold Go.Proofs.YtfhhaadcodofnaaGreat.Df;simp only[tg h];cases hd:decide (g.length>2)with
 |true=>rw[hd]at hr;cases hr;rfl
 |false=>rw[hd]at hr;cases hr;rfl
theorem DR:∀a b:List Int,rV a b=Go.Proofs.YtfhhaadcodofnaaGreat.rV a b
 |[],_=>by cases ‹List Int›<;>rfl
 |_::_,[]=>rfl
 |x::a,y::b=>by
  simp only[rV,Go.Proofs.YtfhhaadcodofnaaGreat.rV,DR a b];rfl
theorem lQ(n:Nat)(a b:List Int)(r:Int)(hr:gO n a b=some r):aQ Tryz.prog 140 [slT (iC .u32) a,slT (iC .u32) b] (.at (.int .i64 r)):=by
 unfold gO at hr;obtain⟨h,hr⟩:=gd hr;obtain⟨h',hr⟩:=gd hr;refine aQ.CR Go.Proofs.YtfhhaadcodofnaaGreat.oL ?_;unfold Go.Proofs.YtfhhaadcodofnaaGreat.Ht;simp only[tg h,tg h'];cases hd:decide (a.length=b.length)with
 |true=>rw[hd]at hr;cases hr;simp only[cond_true,DR]
 |false=>rw[hd]at hr;cases hr;rfl
theorem nj(n:Nat)(a:List Int)(d:Int)(r:List Int×Int)(hr:gk n a d=some r):aQ Tryz.prog 169 [slT (iC .u32) a,.at (.int .u32 d)] (.tup [slT (iC .u32) r.1,.at (.int .u32 r.2)]):=by
 unfold gk at hr;obtain⟨h,hr⟩:=gd hr;obtain⟨h1,hr⟩:=gd hr;obtain⟨h2,hr⟩:=gd hr;refine aQ.CR Go.Proofs.YtfhhaadcodofnaaGreat.oY ?_;unfold Go.Proofs.YtfhhaadcodofnaaGreat.CU;simp only[tg h,h1,h2,Bool.and_self];cases hr;rfl
end Go.L
