import Derived.Test.YtfhhaadcodofnaaGreatChkL51p
import Derived.Test.YtfhhaadcodofnaaGreatChkL52tB
import Derived.Test.YtfhhaadcodofnaaGreatChkL52tB
import Derived.KernelRfl
import Derived.Test.YtfhhaadcodofnaaGreatChkL51p
import Derived.Test.YtfhhaadcodofnaaGreatChkL52tB
import Derived.Test.YtfhhaadcodofnaaGreatChkL52tB
import Derived.Test.YtfhhaadcodofnaaGreatChkL52tB
import Derived.Test.YtfhhaadcodofnaaGreatChkL51p
import Derived.Test.YtfhhaadcodofnaaGreatPl2Chks
import Derived.Test.YtfhhaadcodofnaaGreatScSChks
import Derived.Test.YtfhhaadcodofnaaGreatChkLD
set_option linter.all false
namespace Go.L
open Go Go.Eng
theorem G0{n:Nat}{x y:ar}{a b:Rat}{j k:Nat}(z:20000<=n)(J:j<=30)(hk:k<=30)(hx:Qx x a j)(D:Qx y b k):Ok (dN n x y) fun s=>s>0↔b<a:=by
 unfold dN;refine Ok.bd (lf z (by omega) hx) fun v m=>Ok.bd (lf z (by omega) D) fun w hw=>?_
 have E:=m.nl;have I:=hw.nl;have d1:=m.dl;have d2:=hw.dl;refine Ok.bd (qQ (by omega) m.num hw.den (by omega) (by omega)) fun p hp=>Ok.bd (qQ (by omega) hw.num m.den (by omega) (by omega)) fun q C=>?_
 have N:=kz m.num hw.den hp E d2;have O:=kz hw.num m.den C I d1;refine Ok.bde (lR (by omega) hp C (by omega) (by omega)) (aw.2 ?_);have:=di (a.num*(b.den:Int)-b.num*(a.den:Int));rw[Rat.lt_iff];omega
def isz(x:ai):Nat:=1+(((x.Groups.map fun z=>1).sum+1)+0)
def qsz(x:ar):Nat:=isz x.Num+(isz x.Den+0)
def csz(c:ah):Nat:=1+(1+(qsz c.At+0))
theorem Du{l:List Int}:(l.map fun z=>1).sum=l.length:=by
 induction l with
 |nil=>rfl
 |cons a l j=>rw[List.map_cons,List.sum_cons,j,List.length_cons];omega
theorem EO{a:Int}(h:(Lit.int .u32 a).wf=true):0<=a/\a<=4294967295:=by
 simp[Lit.wf,IntKind.min,IntKind.max,IntKind.signed,IntKind.bits]at h;exact h
def GN(x:ar):Prop:=(∀d∈x.Num.Groups,0<=d)/\(∀d∈x.Den.Groups,0<=d)
end Go.L


set_option linter.all false
namespace Go.L
open Go Go.Eng
def zf(c:ah):Prop:=GN c.At/\c.At.Num.Groups.length<=16/\c.At.Den.Groups.length<=16
end Go.L


set_option linter.all false
namespace Go.L
open Go Go.Eng
def crQ(m q z j:Rat):Rat:=m*j-q*z
def onQ(m q z j:Rat):Bool:=decide (crQ m q z j=0/\m*z+q*j<=0)
theorem Jf(a:Rat):(a<0/\sgn a.num=-1)\/(a=0/\sgn a.num=0)\/(0<a/\sgn a.num=1):=by
 rcases di a.num with⟨h,e⟩|⟨h,e⟩|⟨h,e⟩
 ·refine .inl ⟨?_,e⟩;have:¬0<=a:=fun k=>by have:=Rat.num_nonneg.2 k;omega
  grind
 ·exact .inr (.inl ⟨Rat.num_eq_zero.1 h,e⟩)
 ·exact .inr (.inr ⟨Ip.1 h,e⟩)
end Go.L


set_option linter.all false
namespace Go.L
open Go Go.Eng
theorem F4{r:Rat}:(sgn r.num==0)=decide (r=0):=by
 rcases Jf r with⟨h,e⟩|⟨h,e⟩|⟨h,e⟩
 ·rw[e,decide_eq_false (by grind)];rfl
 ·rw[e,decide_eq_true h];rfl
 ·rw[e,decide_eq_false (by grind)];rfl
end Go.L


set_option linter.unusedVariables false
namespace Go.L
open Go Go.Eng
def Bd1(r:Rat):Prop:=∃p q:Int,r=Rat.divInt p q/\0<q/\q<=1000000000000000/\ -100000000000000000000000<=p/\p<=100000000000000000000000
theorem Bd1.neg{r:Rat}(h:Bd1 r):Bd1 (-r):=by
 obtain⟨p,q,h1,h2,j,m,z⟩:=h;exact⟨-p,q,by rw[h1,Rat.neg_divInt],h2,j,by omega,by omega⟩
def Bd(r:Rat)(i:Nat):Prop:=∃p q:Int,r=Rat.divInt p q/\0<q/\q<=1000000000000000^i/\ -(i*100000000*1000000000000000^i)<=p/\p<=i*100000000*1000000000000000^i
theorem EX{i:Nat}(h:i<=56):(1000000000000000:Int)^i<=1000000000000000^56:=by
 obtain⟨j,m⟩:∃j,56=i+j:=⟨56-i,by omega⟩;rw[show(1000000000000000:Int)^56=1000000000000000^i*1000000000000000^j by rw[<-Int.pow_add,<-m]];have h1:(1:Int)<=1000000000000000^j:=Int.pow_pos (by omega);have h2:(0:Int)<1000000000000000^i:=Int.pow_pos (by omega);have:=mlT h1 (Int.le_of_lt h2);omega
theorem JV:(5600000000:Int)*1000000000000000^56<pB 95:=dcT (by kernel_rfl)
theorem Bd.len{nn dn:Bool}{ng m:List Int}{r:Rat}{i j:Nat}(h:Bd r i)(z:i<=56)(q:QL nn ng dn m r j):QL nn ng dn m r 95:=by
 obtain⟨p,d,h1,h2,C,D,E⟩:=h;have hp:=EX z;have hb:=JV;have I:(0:Int)<1000000000000000^i:=Int.pow_pos (by omega);have hm:(i:Int)*100000000*1000000000000000^i<=5600000000*1000000000000000^56:=Int.mul_le_mul (by omega) hp (by omega) (by omega);generalize (i:Int)*100000000*1000000000000000^i=M at*;generalize (1000000000000000:Int)^i=P at*;generalize (1000000000000000:Int)^56=R at*;exact QL.tight q h1 h2 (by omega) (by omega) (by omega)
end Go.L


set_option linter.all false
namespace Go.L
open Go Go.Eng
def h2(A:Int):Rat:=Rat.divInt A 2
end Go.L


set_option linter.all false
namespace Go.L
open Go Go.Eng
abbrev T4:=Bool×List Int×Bool×List Int
abbrev T12:=Bool×List Int×Bool×List Int×Bool×List Int×Bool×List Int×Bool×List Int×Bool×List Int
def rs(s:T4):ar:=ar.mk (ai.mk s.1 s.2.1) (ai.mk s.2.2.1 s.2.2.2)
def r1(o:T12):ar:=ar.mk (ai.mk o.1 o.2.1) (ai.mk o.2.2.1 o.2.2.2.1)
def r2(o:T12):ar:=ar.mk (ai.mk o.2.2.2.2.1 o.2.2.2.2.2.1) (ai.mk o.2.2.2.2.2.2.1 o.2.2.2.2.2.2.2.1)
def r3(o:T12):ar:=ar.mk (ai.mk o.2.2.2.2.2.2.2.2.1 o.2.2.2.2.2.2.2.2.2.1) (ai.mk o.2.2.2.2.2.2.2.2.2.2.1 o.2.2.2.2.2.2.2.2.2.2.2)
end Go.L


set_option linter.all false
namespace Go.L
open Go Go.Eng
def okL(level:Int):Prop:=level.tmod 2≠0/\ -2097153<=level/\level<=2097153
theorem Jg{w h:Nat}(hw:2<=w)(j:2<=h)(hm:w*h<=40):2*((w-1)*(h-1))<=56:=by
 have h1:w*2<=w*h:=Nat.mul_le_mul_left w j;have h2:2*h<=w*h:=Nat.mul_le_mul_right h hw;have:∀w,w<21->∀h,h<21->2<=w->2<=h->w*h<=40->2*((w-1)*(h-1))<=56:=by decide
 exact this w (by omega) h (by omega) hw j hm
end Go.L


set_option linter.all false
namespace Go.L
open Go Go.Eng
theorem nn{a:Rat}(h:a≠0):(0< -a)↔¬0<a:=by constructor<;>intro k<;>grind
end Go.L


set_option linter.all false
namespace Go.L
open Go Go.Eng
theorem HG{g:an}{w h:Nat}:(lU g w h).length<=2*((w-1)*(h-1)):=by
 have:=List.length_filter_le (pg g.Z) (oq g.Width (w-1) (h-1));rw[xG,Nat.mul_assoc]at this;exact this
def zd(c level:Int):Int:=if c≠0 then c else if level.tmod 2=0 then 1 else if level< -2097153 then 2 else if 2097153<level then 2 else 0
theorem I6{α:Type}{c level:Int}:(cdO ((c:Int)!=0) (some c) (cdO (((level.tmod 2):Int)==0) (some 1) (cdO (decide (level<(-2097153))) (some 2) (cdO (decide (level>2097153)) (some 2) (some 0)))):Option Int)=some (zd c level):=by
 unfold zd;by_cases m:c=0
 ·subst m;by_cases h1:level.tmod 2=0
  ·rw[h1];rfl
  ·rw[show(level.tmod 2==0)=false by simpa using h1,if_neg (by simp),if_neg h1];by_cases h2:level< -2097153
   ·rw[decide_eq_true h2,if_pos h2];rfl
   ·rw[decide_eq_false h2,if_neg h2];by_cases j:level>2097153
    ·rw[decide_eq_true j,if_pos j];rfl
    ·rw[decide_eq_false j,if_neg j];rfl
 ·rw[show(c !=0)=true by simpa using m,if_pos m];rfl
theorem F6(g:an)(level:Int):gj 20000 g level=some (zd (nA g) level):=by
 unfold gj;rw[FV (by omega)];exact I6 (α:=Int)
theorem zP(g:an)(level:Int):fU 20000 g level=some (zd (nA g) level):=by
 unfold fU;rw[Et (by omega)];exact I6 (α:=Int)
theorem F7{g:an}{level:Int}(h:zd (nA g) level=0):nA g=0/\okL level:=by
 unfold zd at h;split at h
 ·omega
 ·rename_i j;split at h
  ·omega
  ·rename_i h1;split at h
   ·omega
   ·split at h
    ·omega
    ·exact⟨by omega,h1,by omega,by omega⟩
end Go.L


set_option linter.all false
namespace Go.L
open Go Go.Eng
section
variable{γ:Type}{κ:γ->Int}
abbrev ltK(κ:γ->Int):γ->γ->Bool:=fun x y=>decide (κ x<κ y)
theorem yQ{lt lt':γ->γ->Bool}{x:γ}:∀{l:List γ},(∀y,y∈l->lt y x=lt' y x)->mG lt x l=mG lt' x l
 |[],_=>rfl
 |y::l,h=>by
  unfold mG;rw[h y (by simp),yQ (l:=l) fun z j=>h z (List.mem_cons_of_mem _ j)]
theorem ye{lt:γ->γ->Bool}{x z:γ}:∀{l:List γ},z∈mG lt x l↔z=x\/z∈l
 |[]=>by simp[mG]
 |y::l=>by
  unfold mG;split
  ·rw[List.mem_cons,ye (l:=l),List.mem_cons];constructor
   ·rintro(h|h|h)
    ·exact .inr (.inl h)
    ·exact .inl h
    ·exact .inr (.inr h)
   ·rintro(h|h|h)
    ·exact .inr (.inl h)
    ·exact .inl h
    ·exact .inr (.inr h)
  ·rw[List.mem_cons]
theorem iw{lt:γ->γ->Bool}{z:γ}:∀{l:List γ},z∈fJ lt l↔z∈l
 |[]=>Iff.rfl
 |x::l=>by unfold fJ;rw[ye,iw (l:=l),List.mem_cons]
theorem BA{lt:γ->γ->Bool}{x:γ}:∀{l:List γ},(mG lt x l).length=l.length+1
 |[]=>rfl
 |y::l=>by
  unfold mG;split
  ·rw[List.length_cons,BA (l:=l),List.length_cons]
  ·rw[List.length_cons]
theorem kR{lt:γ->γ->Bool}:∀{l:List γ},(fJ lt l).length=l.length
 |[]=>rfl
 |x::l=>by unfold fJ;rw[BA,kR (l:=l),List.length_cons]
theorem w9{lt lt':γ->γ->Bool}:∀{l:List γ},(∀x y,x∈l->y∈l->lt x y=lt' x y)->fJ lt l=fJ lt' l
 |[],_=>rfl
 |x::l,h=>by
  unfold fJ;rw[w9 (l:=l) fun y z j m=>h y z (List.mem_cons_of_mem _ j) (List.mem_cons_of_mem _ m)];exact yQ fun y j=>h y x (List.mem_cons_of_mem _ (iw.1 j)) (by simp)
theorem Dy{x:γ}:∀{l:List γ},l.Pairwise (fun a b=>κ a<κ b)->(∀y,y∈l->κ y≠κ x)->(mG (ltK κ) x l).Pairwise (fun a b=>κ a<κ b)
 |[],_,_=>by simp[mG]
 |y::l,h,hx=>by
  unfold mG;rw[List.pairwise_cons]at h;have q:=hx y (by simp);by_cases m:κ y<κ x
  ·rw[if_pos (decide_eq_true m),List.pairwise_cons];refine⟨fun z j=>?_,Dy h.2 fun z j=>hx z (List.mem_cons_of_mem _ j)⟩;rcases ye.1 j with rfl|j
   ·exact m
   ·exact h.1 z j
  ·rw[if_neg (by simpa [ltK]using m),List.pairwise_cons];refine⟨fun z j=>?_,List.pairwise_cons.2 h⟩;rcases List.mem_cons.1 j with rfl|j
   ·omega
   ·have:=h.1 z j;omega
theorem qF:∀{l:List γ},l.Pairwise (fun a b=>κ a≠κ b)->(fJ (ltK κ) l).Pairwise (fun a b=>κ a<κ b)
 |[],_=>.nil
 |x::l,h=>by
  rw[List.pairwise_cons]at h;exact Dy (qF h.2) fun y j=>(fun e=>h.1 y (iw.1 j) e.symm)
theorem wD[DecidableEq γ]{cmp:γ->γ->Option Int}{l:List γ}(hs:∀x y,x∈l->y∈l->∃c,cmp x y=some c/\(c<0↔κ x<κ y))(inj:∀x y,x∈l->y∈l->κ x=κ y->x=y):sq cmp l=some (fJ (ltK κ) l):=by
 have hc:∀x y,x∈l->y∈l->(cfO cmp x y<0↔κ x<κ y):=fun x y hx j=>by
  obtain⟨c,h1,h2⟩:=hs x y hx j;unfold cfO;rw[h1];exact h2
 have ok:Aq cmp l=true:=by
  unfold Aq;rw[List.all_eq_true];intro x hx;rw[Bool.and_eq_true,List.all_eq_true];refine⟨decide_eq_true (by rw[hc x x hx hx];omega),fun y j=>?_⟩;rw[Bool.and_eq_true];refine⟨by obtain⟨c,h1,_⟩:=hs x y hx j;rw[h1];rfl,?_⟩;rw[Bool.and_eq_true,List.all_eq_true];refine⟨decide_eq_true ?_,fun z m=>?_⟩
  ·rw[hc x y hx j,hc y x j hx];by_cases h:κ x=κ y
   ·exact .inr (.inr (inj x y hx j h))
   ·omega
  ·rw[Bool.and_eq_true];refine⟨decide_eq_true ?_,decide_eq_true ?_⟩
   ·rw[hc x y hx j,hc y z j m,hc x z hx m];omega
   ·rw[hc x y hx j,hc y z j m,hc x z hx m];omega
 unfold sq;rw[if_pos ok,w9 (lt':=ltK κ) fun x y hx j=>by rw[decide_eq_decide];exact hc x y hx j]
end
end Go.L


set_option linter.all false
namespace Go.L
open Go Go.Eng
abbrev K2:=A2 Int
def tF(z:Int):Prop:=-1048576<=z/\z<=1048576
def abv(Z:List Int)(level k:Int):Bool:=decide (2*gt Z k>level)
abbrev S5:=Int×Int×Int×Int×Bool
def stp(Z:List Int)(level:Int)(s:S5)(a b:Int):S5:=
 if (abv Z level a&&!abv Z level b)=true then(mn a b,mx a b,s.2.2.1,s.2.2.2.1,true)else if (!abv Z level a&&abv Z level b)=true then(s.1,s.2.1,mn a b,mx a b,s.2.2.2.2)else s
def AX(Z:List Int)(level:Int)(t:A3 Int):Nat->S5
 |0=>(0,0,0,0,false)
 |k+1=>stp Z level (AX Z level t k) (A3.get t (k:Int)) (A3.get t (((k+1)%3:Nat):Int))
def HA(s:S5):Option (K2×K2):=match s with|(f0,f1,t0,t1,true)=>some (A2.mk f0 f1,A2.mk t0 t1)|_=>none
def seg(Z:List Int)(level:Int)(t:A3 Int):Option (K2×K2):=HA (AX Z level t 3)
theorem Jd{k:Nat}(h:k<3):(Ki ((k:Int)+1)).tmod 3=(((k+1)%3:Nat):Int):=by
 rcases (by omega:k=0\/k=1\/k=2)with rfl|rfl|rfl<;>rfl
def okT(Z:List Int)(t:A3 Int):Prop:=∀i:Nat,i<3->inR (A3.get t (i:Int)) Z.length=true/\tF (gt Z (A3.get t (i:Int)))
theorem IJ{Z:List Int}{t:A3 Int}(j:inR t.e0 Z.length=true/\inR t.e1 Z.length=true/\inR t.e2 Z.length=true)(m:tF (gt Z t.e0)/\tF (gt Z t.e1)/\tF (gt Z t.e2)):okT Z t:=by
 intro i h;rcases (by omega:i=0\/i=1\/i=2)with rfl|rfl|rfl
 ·exact⟨j.1,m.1⟩
 ·exact⟨j.2.1,m.2.1⟩
 ·exact⟨j.2.2,m.2.2⟩
theorem HS{n:Nat}{Z:List Int}{level k:Int}(h:inR k Z.length=true/\tF (gt Z k))(a b c d e:Int):ef n k a b c d e Z level=some (abv Z level k):=by
 unfold ef abv;rw[h.1,wrap64_in (by have:=h.2.1;omega) (by have:=h.2.2;omega)];rfl
theorem HX{n:Nat}{g:an}{level k:Int}(h:inR k g.Z.length=true/\tF (gt g.Z k)):bL n g level k=some (abv g.Z level k):=by
 unfold bL abv;rw[h.1,wrap64_in (by have:=h.2.1;omega) (by have:=h.2.2;omega)];rfl
def stM(c:List (K2×K2)×List (K2×Bool))(q:K2×K2):List (K2×K2)×List (K2×Bool):=(dL c.1 q.1 q.2,dL c.2 q.2 true)
def stT(Z:List Int)(level:Int)(c:List (K2×K2)×List (K2×Bool))(t:A3 Int):List (K2×K2)×List (K2×Bool):=match seg Z level t with|some q=>stM c q|none=>c
theorem FR{n:Nat}(J:10<n){t:A3 Int}{Z:List Int}{level:Int}(E:okT Z t)(a b c d e:Int)(m:List (K2×K2)×List (K2×Bool)):gG n t a b c d e Z level m.1 m.2=some (stT Z level m t):=by
 apply Ok.eq;unfold gG;refine Ok.bd (R:=fun o=>o=AX Z level t 3) ?_ ?_
 ·refine eC (γ:=S5) (len:=3) (fun s x=>(s.1,s.2.1,s.2.2.1,s.2.2.2.1,s.2.2.2.2,x)) (fun k s=>s=AX Z level t k) (by omega) (by omega) (c0:=(0,0,0,0,false)) rfl ?_ ?_
  ·rintro again k s hk hs C;have h1:=E k hk;have h2:=E ((k+1)%3) (by omega);refine Ok.cd (fun _=>?_) (fun h=>by have:=dcF h;omega);rw[Jd hk];refine Ok.gd (by rw[kY];omega) (Ok.gd (by rw[kY];omega) ?_);have key:AX Z level t (k+1)=stp Z level s (A3.get t (k:Int)) (A3.get t (((k+1)%3:Nat):Int)):=by rw[hs];rfl
   have C:∀j,j=stp Z level s (A3.get t (k:Int)) (A3.get t (((k+1)%3:Nat):Int))->Ok (again (j.1,j.2.1,j.2.2.1,j.2.2.2.1,j.2.2.2.2,Ki ((k:Int)+1))) _:=fun j h=>C j (h.trans key.symm)
   clear key;have e1:=HS (n:=n) (level:=level) h1 a b c d e;have e2:=HS (n:=n) (level:=level) h2 a b c d e;generalize A3.get t (((k+1)%3:Nat):Int)=y at*;generalize A3.get t (k:Int)=x at*;refine Ok.bde rfl (Ok.bd (R:=fun o=>o=(abv Z level x&&!abv Z level y)) (Ok.bde e1 ?_) ?_)
   ·exact Ok.cd (fun h=>Ok.bde e2 (aw.2 (by rw[h];rfl))) (fun h=>aw.2 (by rw[h];rfl))
   ·rintro o rfl;refine Ok.cd (fun h=>Ok.bde rfl (C (mn x y,mx x y,s.2.2.1,s.2.2.2.1,true) (by unfold stp;rw[if_pos h]))) (fun h=>Ok.bde e1 (Ok.cd (fun D=>Ok.bde e2 (Ok.cd (fun z=>Ok.bde rfl (C (s.1,s.2.1,mn x y,mx x y,s.2.2.2.2) (by unfold stp;rw[h,if_neg (by simp),D,z];rfl))) (fun z=>C s (by unfold stp;rw[h,if_neg (by simp),D,z];rfl)))) (fun D=>C s (by unfold stp;rw[h,if_neg (by simp),D];rfl))))
  ·rintro again s rfl;exact Ok.cd (fun h=>by have:=dcT h;omega) (fun _=>aw.2 rfl)
 ·rintro o I;have e:stT Z level m t=(match HA o with|some q=>stM m q|none=>m):=by unfold stT seg;rw[<-I]
  rw[e];clear I e;obtain⟨f0,f1,t0,t1,cr⟩:=o;cases cr<;>exact aw.2 rfl
def tG(g:an)(w h:Nat)(level:Int):List (K2×K2):=(lU g w h).filterMap (seg g.Z level)
theorem II{g:an}{w h:Nat}(hb:g.Z.any qM=false){t:A3 Int}(z:Gd g w h)(q:t∈lU g w h):okT g.Z t:=by
 unfold lU at q;rw[List.mem_filter]at q;obtain⟨i0,i1,i2⟩:=F9 z q.1;have j:=q.2;unfold pg at j;simp only[Bool.and_eq_true]at j;have key:∀{k:Int},inR k g.Z.length=true->(gt g.Z k != -2147483648)=true->tF (gt g.Z k):=by
  intro k hk C;have D:=kY.1 hk;obtain⟨m,rfl⟩:∃m:Nat,k=(m:Int):=⟨k.toNat,by omega⟩;have hm:m<g.Z.length:=by omega
  have h1:gt g.Z (m:Int)∈g.Z:=by
   rw[jo];simp only[List.getD,geT hm,Option.getD_some];exact List.getElem_mem hm
  have:=List.any_eq_false.1 hb _ h1;unfold qM AR at this;rw[C]at this;simp at this;exact⟨by omega,by omega⟩
 exact IJ ⟨i0,i1,i2⟩ ⟨key i0 j.1,key i1 j.2.1,key i2 j.2.2⟩
theorem Is{n:Nat}(q:200<n){g:an}{level:Int}{w h:Nat}(j:Gd g w h)(hb:g.Z.any qM=false)(a b c d e:Int):
  bf n g a b c d e g.Z level ([]:List (K2×K2)) ([]:List (K2×Bool))=some ((tG g w h level).foldl stM ([],[])):=by
 apply Ok.eq;unfold bf;refine Ok.bd (R:=fun o=>o=(lU g w h).foldl (stT g.Z level) ([],[])) ?_ ?_
 ·refine BO (γ:=List (K2×K2)×List (K2×Bool)) q j (fun c x=>(c.1,c.2,x)) (fun t m=>gG n t a b c d e g.Z level m.1 m.2)
   (fun _ _ _=>rfl) (fun _ _ _ _=>rfl) (fun _ _ _ _=>rfl) (fun pre m=>m=pre.foldl (stT g.Z level) ([],[])) rfl fun pre t m z _ hm=>?_
  rw[FR (by omega) (II hb j z)];exact aw.2 (by rw[List.foldl_append,<-hm];rfl)
 ·rintro o rfl;refine aw.2 ?_;unfold tG;rw[List.foldl_filterMap];show List.foldl (stT g.Z level) ([],[]) (lU g w h)=_;congr 1;funext x y;unfold stT;cases seg g.Z level y<;>rfl
theorem Ic{n:Nat}(hn:10000<n){g:an}{level:Int}{w h:Nat}(T:Gd g w h)(hb:g.Z.any qM=false)(N:(lU g w h).length<=8000):fu n g level=some ((tG g w h level).map fun q=>A2.mk q.1 q.2):=by
 apply Ok.eq;unfold fu;refine Ok.bde (GU (by omega) T) ?_;refine Ok.bd (R:=fun o=>o=(tG g w h level).map fun q=>A2.mk q.1 q.2) ?_ (fun o I=>aw.2 I);have Y:∀k,(((lU g w h).take k).filterMap (seg g.Z level)).length<=8000:=fun k=>Nat.le_trans (List.length_filterMap_le _ _) (by rw[List.length_take];omega)
 refine eC (γ:=List (A2 K2)) (len:=(lU g w h).length) (fun l x=>(l,x)) (fun k l=>l=(((lU g w h).take k).filterMap (seg g.Z level)).map fun q=>A2.mk q.1 q.2) (by omega) (by omega) (c0:=[]) rfl ?_ ?_
 ·rintro again k l hk z J;have hm:gt (lU g w h) (k:Int)∈lU g w h:=by
   rw[jo];simp only[List.getD,geT hk,Option.getD_some];exact List.getElem_mem hk
  have N:=II hb T hm;have ht:((lU g w h).take (k+1)).filterMap (seg g.Z level)=((lU g w h).take k).filterMap (seg g.Z level)++(match seg g.Z level (gt (lU g w h) (k:Int))with|some q=>[q]|none=>[]):=by
   rw[List.take_add_one,geT hk,List.filterMap_append,jo];simp only[List.getD,geT hk,Option.getD_some,Option.toList_some];cases hs:seg g.Z level (lU g w h)[k]<;>simp[List.filterMap,hs]
  have O:=Y k;rw[ht]at J;refine Ok.cd (fun _=>?_) (fun h=>by have:=dcF h;omega);refine Ok.gd (by rw[bj];exact decide_eq_true hk) ?_;generalize gt (lU g w h) (k:Int)=t at*;refine Ok.bd (R:=fun o=>o=AX g.Z level t 3) ?_ ?_
  ·refine eC (γ:=S5) (len:=3) (fun s x=>(s.1,s.2.1,s.2.2.1,s.2.2.2.1,s.2.2.2.2,x)) (fun k s=>s=AX g.Z level t k) (by omega) (by omega) (c0:=(0,0,0,0,false)) rfl ?_ ?_
   ·rintro m j s U hs C;have h1:=N j U;have h2:=N ((j+1)%3) (by omega);refine Ok.cd (fun _=>?_) (fun h=>by have:=dcF h;omega);rw[Jd U];refine Ok.gd (by rw[kY];omega) (Ok.gd (by rw[kY];omega) ?_);have key:AX g.Z level t (j+1)=stp g.Z level s (A3.get t (j:Int)) (A3.get t (((j+1)%3:Nat):Int)):=by rw[hs];rfl
    have C:∀D,D=stp g.Z level s (A3.get t (j:Int)) (A3.get t (((j+1)%3:Nat):Int))->Ok (m (D.1,D.2.1,D.2.2.1,D.2.2.2.1,D.2.2.2.2,Ki ((j:Int)+1))) _:=fun D h=>C D (h.trans key.symm)
    clear key;have e1:=HX (n:=n) (level:=level) h1;have e2:=HX (n:=n) (level:=level) h2;generalize A3.get t (((j+1)%3:Nat):Int)=y at*;generalize A3.get t (j:Int)=x at*;refine Ok.bde rfl (Ok.bde e1 ?_);cases hx:abv g.Z level x with
    |true=>
     rw[hx]at e1;refine Ok.cd (fun _=>Ok.bde e2 ?_) (fun h=>by cases h);cases E:abv g.Z level y with
     |true=>
      refine Ok.cd (fun h=>by cases h) (fun _=>Ok.bde e1 (Ok.cd (fun h=>by cases h) (fun _=>C s ?_)));unfold stp;rw[hx,E];rfl
     |false=>
      refine Ok.cd (fun _=>Ok.bde rfl (Ok.bde e1 (Ok.cd (fun h=>by cases h) (fun _=>C (mn x y,mx x y,s.2.2.1,s.2.2.2.1,true) ?_)))) (fun h=>by cases h);unfold stp;rw[hx,E];rfl
    |false=>
     rw[hx]at e1;refine Ok.cd (fun h=>by cases h) (fun _=>Ok.bde e1 (Ok.cd (fun _=>Ok.bde e2 ?_) (fun h=>by cases h)));cases E:abv g.Z level y with
     |true=>
      refine Ok.cd (fun _=>Ok.bde rfl (C (s.1,s.2.1,mn x y,mx x y,s.2.2.2.2) ?_)) (fun h=>by cases h);unfold stp;rw[hx,E];rfl
     |false=>
      refine Ok.cd (fun h=>by cases h) (fun _=>C s ?_);unfold stp;rw[hx,E];rfl
   ·rintro m s rfl;exact Ok.cd (fun h=>by have:=dcT h;omega) (fun _=>aw.2 rfl)
  ·rintro o I;have e:seg g.Z level t=HA o:=by unfold seg;rw[<-I]
   rw[e]at J;clear I e;have hlen:l.length<=8000:=by rw[z,List.length_map];exact O
   obtain⟨f0,f1,t0,t1,cr⟩:=o;cases cr with
   |true=>exact Ok.cd (fun _=>Ok.gd (decide_eq_true (by omega)) (Ok.gd (decide_eq_true (by omega)) (J _ (by rw[z,List.map_append];rfl)))) (fun h=>by cases h)
   |false=>exact Ok.cd (fun h=>by cases h) (fun _=>J _ (by rw[z,List.map_append];show _=_++[];rw[List.append_nil]))
 ·rintro again l z;rw[List.take_length]at z;exact Ok.cd (fun h=>by have:=dcT h;omega) (fun _=>aw.2 z)
end Go.L

