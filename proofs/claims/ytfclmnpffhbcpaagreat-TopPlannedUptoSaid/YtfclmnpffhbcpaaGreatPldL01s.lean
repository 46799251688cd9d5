import Derived.Test.YtfclmnpffhbcpaaGreatPldLD
import Derived.Test.YtfclmnpffhbcpaaGreatPl6Plds
set_option linter.all false
namespace Go.L.R
open Go Go.Eng Go.L
theorem fa{l:List Int}{k:Nat}:gt l (k:Int)=l.getD k 0:=dQ
theorem kK{k:Nat}(h:k<=4000000000):Hy ((k:Int)+1)=((k+1:Nat):Int):=by rw[wrap64_in (by omega) (by omega)];omega
theorem mR{k:Nat}(h:0<k)(j:k<=4000000000):Hy ((k:Int)-1)=((k-1:Nat):Int):=by rw[wrap64_in (by omega) (by omega)];omega
theorem nQ{j k:Nat}(h:j<=4000000000)(q:k<=4000000000):Hy ((j:Int)+(k:Int))=((j+k:Nat):Int):=by rw[wrap64_in (by omega) (by omega)];omega
theorem xV{p q o c:Int}(hp:0<=p/\p<1000000000)(j:0<=q/\q<1000000000)(z:0<=o/\o<1000000000)(hc:0<=c/\c<1000000000):
  af .u64 ((af .u64 ((af .u64 o)+(af .u64 ((af .u64 p)*(af .u64 q)))))+c)=o+p*q+c/\0<=o+p*q+c/\o+p*q+c<1000000000000000000:=by
 have h1:0<=p*q:=Int.mul_nonneg hp.1 j.1;have C:p*q<=999999999*999999999:=Int.mul_le_mul (by omega) (by omega) j.1 (by omega);rw[aO (n:=o) (by omega) (by omega),aO (n:=p) (by omega) (by omega),aO (n:=q) (by omega) (by omega),aO (n:=p*q) (by omega) (by omega),aO (n:=o+p*q) (by omega) (by omega),aO (by omega) (by omega)];exact⟨rfl,by omega,by omega⟩
theorem uH{l:List Int}{j:Nat}(h:l.length<=j):l.getD j 0=0:=by simp[List.getD,List.getElem?_eq_none h]
theorem vH{k j:Nat}:(List.replicate k (0:Int)).getD j 0=0:=by
 by_cases h:j<k
 ·simp[List.getD,h]
 ·exact uH (by simpa using h)
theorem eD{n:Nat}{g:List Int}(T:1000<=n)(neg:Bool)(J:Dig g)(U:g.length<=900):Ok (bx n neg g) fun z=>isI z.Negative z.Groups (if neg then-vl g else vl g):=by
 unfold bx;refine Ok.bd (R:=fun k:Int=>∃j:Nat,k=(j:Int)/\j<=g.length/\(∀m,j<=m->g.getD m 0=0)/\(0<j->g.getD (j-1) 0≠0)) ?_ ?_
 ·refine ee (fun k:Int=>∃j:Nat,k=(j:Int)/\j<=g.length/\(∀m,j<=m->g.getD m 0=0)) (fun k=>k.toNat) ?_ n _ ⟨g.length,rfl,Nat.le_refl _,fun m hm=>uH hm⟩ (by simp;omega);rintro again k ⟨j,rfl,h1,q⟩ N;refine Ok.cd (fun h=>?_) (fun h=>?_)
  ·have C:0<j:=by simp at h;omega
   rw[mR C (by omega)];refine Ok.gd (by rw[bm];simp;omega) ?_;rw[fa];refine Ok.cd (fun h=>?_) (fun h=>?_)
   ·refine N _ ⟨j-1,rfl,by omega,fun m hm=>?_⟩ (by simp;omega);by_cases E:m=j-1
    ·rw[E];simpa using h
    ·exact q m (by omega)
   ·exact aC.2 ⟨j,rfl,h1,q,fun _=>by simpa using h⟩
  ·have:j=0:=by simp at h;omega
   subst this;exact aC.2 ⟨0,rfl,by omega,q,fun h=>by omega⟩
 ·rintro _ ⟨j,rfl,h1,q,O⟩;have e:(g.drop (0:Int).toNat).take ((j:Int).toNat-(0:Int).toNat)=g.take j:=by simp
  rw[e];have hc:Can (g.take j):=zZ (sQ J _) (by
   by_cases D:j=0
   ·left;rw[D];rfl
   ·right;rw[List.length_take,Nat.min_eq_left h1];have:=O (by omega);simpa [List.getD,List.getElem?_take,(by omega:j-1<j)]using this)
  have I:vl (g.take j)=vl g:=zm h1 q;refine Ok.cd (fun h=>?_) (fun h=>?_)
  ·refine Ok.gd (nJ.2 (by omega)) (Ok.gd (by simp;omega) (Ok.gd (by simp;omega) (aC.2 ?_)));subst h;by_cases D:j=0
   ·subst D;refine⟨hc,fun h=>by simp at h,?_⟩;rw[if_pos rfl,<-I];rfl
   ·refine⟨hc,fun _ S=>?_,?_⟩
    ·have:=congrArg List.length S;rw[List.length_take,Nat.min_eq_left h1]at this;exact D this
    ·have:decide ((j:Int)>0)=true:=by simp;omega
     simp only[this,if_true,I]
  ·refine Ok.gd (nJ.2 (by omega)) (Ok.gd (by simp;omega) (Ok.gd (by simp;omega) (aC.2 ?_)));subst h;exact⟨hc,fun h=>by simp at h,by simp[I]⟩
theorem mD{n:Nat}{v:Int}(T:1000<=n)(J:0<=v)(U:v<18446744073709551616):Ok (aV (α:=Int×List Int) (β:=List Int) n (fun again x=>match x with
  |(z,j)=>(
   cdO (decide (z>0)) (
    gdO (decide ((j.length+1)*4<=140737488355328)) (
    gdO (decide (j.length+1<=4611686018427387904)) (
    again (af .u64 (z.tdiv 1000000000),j++[af .u32 (z.tmod 1000000000)])
    )
    )
   ) (
    some (j)
   )
  )) (v,[])) fun r=>Can r/\vl r=v/\r.length<=3:=by
 refine ee (fun x:Int×List Int=>Dig x.2/\0<=x.1/\vl x.2+pB x.2.length*x.1=v/\x.2.length<=3/\(x.1=0->Can x.2)) (fun x=>4-x.2.length) ?_ n (v,[]) ⟨oO,J,by show 0+1*v=v;omega,by simp,fun _=>trivial⟩ (by simp;omega);rintro again ⟨m,g⟩ ⟨h1,C,D,E,I⟩ N;simp only at h1 C D E I;have Y:=bI h1;have hp:=iv g.length;have O:m<=v:=by
  have:m<=pB g.length*m:=by
   have:=mrT hp C;omega
  omega
 refine Ok.cd (fun h=>?_) (fun h=>?_)
 ·have hm:0<m:=by simpa using h
  have hlen:g.length<=2:=by
   by_cases h:g.length<=2
   ·exact h
   ·have R:g.length=3:=by omega
    rw[R]at D;have:pB 3=1000000000000000000000000000:=rfl;rw[this]at D;omega
  refine Ok.gd (by simp;omega) (Ok.gd (by simp;omega) ?_);have e1:m.tdiv 1000000000=m / 1000000000:=Int.tdiv_eq_ediv_of_nonneg C;have e2:m.tmod 1000000000=m%1000000000:=Int.tmod_eq_emod_of_nonneg C;rw[e1,e2,aO (by omega) (by omega),bU (by omega) (by omega)];have q:0<=m%1000000000/\m%1000000000<1000000000:=by omega
  refine N _ ⟨mc.2 ⟨h1,gz.2 q⟩,by simp only;omega,?_,by simp;omega,fun S=>xc h1 q (by simp only at S;omega)⟩ (by simp;omega);simp only;rw[mQ,iQ,List.length_append,List.length_singleton,dE];have:m=m%1000000000+1000000000*(m / 1000000000):=by omega
  rw[<-D];grind
 ·have hm:m=0:=by simp at h;omega
  subst hm;exact aC.2 ⟨I rfl,by omega,E⟩
theorem xo{n:Nat}{v:Int}(C:1000<=n)(I:-9223372036854775808<=v)(J:v<=9223372036854775807):Ok (im n v) fun z=>isI z.Negative z.Groups v:=by
 unfold im;refine Ok.cd (fun h=>?_) (fun h=>?_)
 ·have j:v<0:=by simpa using h
  have e:af .u64 (af .u64 (Hy (0-Hy (v+1)))+1)=-v:=by
   rw[wrap64_in (n:=v+1) (by omega) (by omega),wrap64_in (by omega) (by omega),aO (n:=0-(v+1)) (by omega) (by omega),aO (by omega) (by omega)];omega
  rw[e];refine Ok.bd (mD C (by omega) (by omega)) ?_;rintro r ⟨h1,D,E⟩;refine Ok.bd (eD C true h1.dig (by omega)) ?_;intro z q;rw[D]at q;refine aC.2 ?_;simpa using q
 ·have j:0<=v:=by simpa using h
  rw[aO j (by omega)];refine Ok.bd (mD C (by omega) (by omega)) ?_;rintro r ⟨h1,D,E⟩;refine Ok.bd (eD C false h1.dig (by omega)) ?_;intro z q;rw[D]at q;exact aC.2 q
theorem mT{n:Nat}{x:aj}{v:Int}(E:1000<=n)(I:x.Groups.length<=900)(h:isI x.Negative x.Groups v):dI n x=some true:=by
 obtain⟨h1,z,J⟩:=h;apply Ok.eq;unfold dI;refine Ok.bd (R:=fun o=>match o with|.inl _=>True|.inr _=>False) ?_ ?_
 ·refine lS (len:=x.Groups.length) (fun k=>True) (by omega) (by omega) trivial ?_ ?_
  ·intro again k hk _ C;refine Ok.cd (fun _=>?_) (fun h=>?_)
   ·refine Ok.gd (by rw[bm];simpa using hk) ?_;rw[fa];have:=dC h1.dig k;refine Ok.cd (fun h=>?_) (fun h=>C trivial);have:=dcT h;omega
   ·simp at h;omega
  ·intro again _;refine Ok.cd (fun h=>?_) (fun h=>aC.2 trivial);simp at h
 ·rintro(_|r) h
  ·refine Ok.cd (fun h=>?_) (fun h=>?_)
   ·have q:x.Groups=[]:=by simpa using h
    refine aC.2 ?_;cases D:x.Negative with|false=>rfl|true=>exact absurd q (z D)
   ·have q:x.Groups≠[]:=by simpa using h
    have j:0<x.Groups.length:=List.length_pos_iff.2 q;rw[mR j (by omega)];refine Ok.gd (by rw[bm];simp;omega) (aC.2 ?_);rw[fa];simpa using sr h1 q
  ·exact h.elim
theorem lU{n:Nat}{x:aj}{v:Int}(j:1000<=n)(q:x.Groups.length<=900)(h:isI x.Negative x.Groups v):bV n x=some x:=by
 unfold bV;rw[mT j q h];show gdO _ (gdO _ _)=_;have e1:decide ((0+x.Groups.length)*4<=140737488355328)=true:=by simp;omega
 have e2:decide (0+x.Groups.length<=4611686018427387904)=true:=by simp;omega
 rw[e1,e2];rfl
theorem lV{n:Nat}{x:aj}{v:Int}(q:1000<=n)(z:x.Groups.length<=900)(h:isI x.Negative x.Groups v):dW n x=some (sgn v):=by
 unfold dW;rw[lU q z h,Cf h];show cdO _ _ _=_;by_cases j:x.Groups=[]
 ·rw[j];rfl
 ·have e:(((x.Groups.length:Int):Int)==0)=false:=by simp[j]
  rw[e,if_neg j];cases x.Negative<;>rfl
theorem oZ{n:Nat}{x:aj}{v:Int}(j:1000<=n)(q:x.Groups.length<=900)(h:isI x.Negative x.Groups v):Ok (fL n x) fun z=>isI z.Negative z.Groups (-v):=by
 unfold fL;refine Ok.bde (lU j q h) ?_;refine Ok.bd (eD j _ h.1.dig q) fun z C=>aC.2 ?_
 have:-v=if (!x.Negative)=true then-vl x.Groups else vl x.Groups:=by rw[h.2.2];cases x.Negative<;>simp
 rw[this];exact C
theorem oa{n:Nat}{l:List Int}{k:Nat}(h:Dig l):bG n l (k:Int)=some (l.getD k 0):=by
 unfold bG;have j:=dC h k;by_cases h:k<l.length
 ·have e:decide ((k:Int)<(l.length:Int))=true:=by simp;omega
  rw[e,bm,fa];have e:decide (k<l.length)=true:=by simpa using h
  rw[e,aO (by omega) (by omega)];rfl
 ·have e:decide ((k:Int)<(l.length:Int))=false:=by simp;omega
  rw[e,uH (by omega)];rfl
end Go.L.R


set_option linter.all false
namespace Go.L.R
open Go Go.Eng Go.L
theorem td{m:Int}(h:0<=m):m.tdiv 1000000000=m / 1000000000/\m.tmod 1000000000=m%1000000000:=⟨Int.tdiv_eq_ediv_of_nonneg h,Int.tmod_eq_emod_of_nonneg h⟩
theorem wZ{n:Nat}{a b:List Int}(U:1000<=n)(I:Dig a)(J:Dig b)(Y:a.length<=400)(lb:b.length<=400):Ok (ir n a b) fun r=>Can r/\vl r=vl a+vl b:=by
 unfold ir;obtain⟨M,h1,h2,h3,h4⟩:∃M:Nat,a.length<=M/\b.length<=M/\M<=400/\(M=a.length\/M=b.length):=by
  by_cases h:a.length<=b.length
  ·exact⟨b.length,h,by omega,lb,.inr rfl⟩
  ·exact⟨a.length,by omega,by omega,Y,.inl rfl⟩
 refine Ok.bd (R:=fun r=>Dig r.1/\r.1.length=M/\(r.2=0\/r.2=1)/\vl r.1+pB M*r.2=vl a+vl b) ?_ ?_
 ·refine ee (fun x:List Int×Int×Int=>∃k:Nat,x.2.2=(k:Int)/\k<=M/\x.1.length=k/\Dig x.1/\(x.2.1=0\/x.2.1=1)/\vl x.1+pB k*x.2.1=vk a k+vk b k) (fun x=>M-x.2.2.toNat) ?_ n _
   ⟨0,rfl,by omega,rfl,oO,.inl rfl,by simp[jS,vl]⟩ (by simp;omega)
  rintro again ⟨out,c,x⟩ ⟨k,T,D,q,C,E,N⟩ Z;simp only at T q C E N;subst T;dsimp only;rw[oa I,oa J];have da:=dC I k;have db:=dC J k;have step:k<M->Ok (bdO (some (a.getD k 0)) fun v22=>bdO (some (b.getD k 0)) fun v24=>gdO (decide ((out.length+1)*4<=140737488355328)) (gdO (decide (out.length+1<=4611686018427387904)) (again (out++[af .u32 ((af .u64 ((af .u64 (v22+v24))+c)).tmod 1000000000)],af .u64 ((af .u64 ((af .u64 (v22+v24))+c)).tdiv 1000000000),Hy ((k:Int)+1)))))
    fun r=>Dig r.1/\r.1.length=M/\(r.2=0\/r.2=1)/\vl r.1+pB M*r.2=vl a+vl b:=by
   intro hk;show Ok (gdO _ _) _;refine Ok.gd (by simp;omega) (Ok.gd (by simp;omega) ?_);generalize hs:af .u64 (af .u64 (a.getD k 0+b.getD k 0)+c)=s;have a1:s=a.getD k 0+b.getD k 0+c:=by rw[<-hs,aO (n:=a.getD k 0+b.getD k 0) (by omega) (by omega),aO (by omega) (by omega)]
   rw[(td (by omega)).1,(td (by omega)).2,aO (by omega) (by omega),bU (by omega) (by omega),kK (by omega)];refine Z _ ⟨k+1,rfl,by omega,by simp;omega,mc.2 ⟨C,gz.2 (by omega)⟩,by simp only;omega,?_⟩ (by simp;omega);simp only;rw[mQ,iQ,q,gk,gk,dE];have:a.getD k 0+b.getD k 0+c=s%1000000000+1000000000*(s / 1000000000):=by omega
   grind
  refine Ok.cd (fun h=>?_) (fun h=>Ok.cd (fun O=>?_) (fun O=>?_))
  ·exact step (by have:=dcT h;omega)
  ·exact step (by have:=dcT O;omega)
  ·have:=dcF h;have:=dcF O;obtain rfl:k=M:=by omega
   rw[gV (l:=a) (by omega),gV (l:=b) (by omega)]at N;exact aC.2 ⟨C,q,E,N⟩
 ·rintro⟨out,c⟩ ⟨D,q,C,E⟩;simp only at D q C E;dsimp only;refine Ok.gd (by simp;omega) (Ok.gd (by simp;omega) ?_);rw[bU (by omega) (by omega)];refine Ok.bd (eD U false (mc.2 ⟨D,gz.2 (by omega)⟩) (by simp;omega)) fun z S=>aC.2 ⟨S.1,?_⟩
  have:=S.2.2;have j:=iJ S;have a6:=bI D;have a7:=iv M;rw[mQ,iQ,q]at j;have:0<=vl a+vl b:=by have:=bI I;have:=bI J;omega
  simp only[Bool.false_eq_true,if_false]at j;omega
theorem nX{n:Nat}{a b:List Int}(S:1000<=n)(E:Dig a)(I:Dig b)(Y:a.length<=400)(lb:b.length<=a.length)(hle:vl b<=vl a):Ok (cX n a b) fun r=>Can r/\vl r=vl a-vl b:=by
 unfold cX;refine Ok.bd (R:=fun r=>Dig r/\r.length=a.length/\vl r=vl a-vl b) ?_ ?_
 ·refine ee (fun x:List Int×Int×Int=>∃k:Nat,x.2.2=(k:Int)/\k<=a.length/\x.1.length=k/\Dig x.1/\(x.2.1=0\/x.2.1=1)/\vl x.1-pB k*x.2.1=vk a k-vk b k) (fun x=>a.length-x.2.2.toNat) ?_ n _
   ⟨0,rfl,by omega,rfl,oO,.inl rfl,by simp[jS,vl]⟩ (by simp;omega)
  rintro again ⟨out,c,x⟩ ⟨k,J,N,q,C,j,D⟩ T;simp only at J q C j D;subst J;dsimp only;rw[oa E,oa I];have Z:=dC E k;have db:=dC I k;refine Ok.cd (fun h=>?_) (fun h=>?_)
  ·have hk:k<a.length:=by have:=dcT h;omega
   show Ok (gdO _ _) _;refine Ok.gd (by simp;omega) (Ok.gd (by simp;omega) ?_);generalize hs:af .u64 (af .u64 (af .u64 (1000000000+a.getD k 0)-b.getD k 0)-c)=s;have U:s=1000000000+a.getD k 0-b.getD k 0-c:=by rw[<-hs,aO (n:=1000000000+a.getD k 0) (by omega) (by omega),aO (n:=1000000000+a.getD k 0-b.getD k 0) (by omega) (by omega),aO (by omega) (by omega)]
   rw[(td (by omega)).1,(td (by omega)).2,aO (n:=s / 1000000000) (by omega) (by omega),aO (by omega) (by omega),bU (by omega) (by omega),kK (by omega)];refine T _ ⟨k+1,rfl,by omega,by simp;omega,mc.2 ⟨C,gz.2 (by omega)⟩,by simp only;omega,?_⟩ (by simp;omega);simp only;rw[mQ,iQ,q,gk,gk,dE];have:a.getD k 0-b.getD k 0-c=s%1000000000+1000000000*(s / 1000000000)-1000000000:=by omega
   grind
  ·have:=dcF h;obtain rfl:k=a.length:=by omega
   rw[gV (l:=a) (by omega),gV (l:=b) (by omega)]at D;refine aC.2 ⟨C,q,?_⟩;have:=iu C;rw[q]at this;rcases j with j|j
   ·rw[j]at D;omega
   ·rw[j]at D;omega
 ·rintro r ⟨N,q,C⟩;refine Ok.bd (eD S false N (by omega)) fun z O=>aC.2 ⟨O.1,?_⟩
  have:=iJ O;simp only[Bool.false_eq_true,if_false]at this;omega
theorem zQ{n:Nat}{a b:List Int}(O:1000<=n)(C:Can a)(D:Can b)(S:a.length<=400)(lb:b.length<=400):dT n a b=some (sgn (vl a-vl b)):=by
 apply Ok.eq;unfold dT;refine Ok.cd (fun h=>Ok.cd (fun q=>?_) (fun q=>?_)) (fun h=>?_)
 ·have:=dcT q;have:=de C.dig D (by omega);exact aC.2 (me (by omega)).symm
 ·have h1:=dcF q;have z:a.length≠b.length:=by intro e;rw[e]at h;simp at h
  have:=de D.dig C (by omega);exact aC.2 (pP (by omega)).symm
 ·have T:a.length=b.length:=by simp at h;omega
  refine Ok.bd (R:=fun o=>match o with|.inl _=>sgn (vl a-vl b)=0|.inr r=>r=sgn (vl a-vl b)) ?_ ?_
  ·refine ee (fun i:Int=>∃k:Nat,i=(k:Int)-1/\k<=a.length/\vl a-vl b=vk a k-vk b k) (fun i=>(i+1).toNat) ?_ n _ ⟨a.length,by rw[wrap64_in (by omega) (by omega)],Nat.le_refl _,by rw[gV (by omega),gV (by omega)]⟩ (by rw[wrap64_in (by omega) (by omega)];omega);rintro again _ ⟨k,rfl,h1,z⟩ I;refine Ok.cd (fun h=>?_) (fun h=>?_)
   ·have hk:=dcT h;obtain⟨j,rfl⟩:∃j,k=j+1:=⟨k-1,by omega⟩;have e:(((j+1:Nat):Int)-1)=(j:Int):=by omega
    rw[e];refine Ok.gd (by rw[bm];simp;omega) (Ok.gd (by rw[bm];simp;omega) ?_);rw[fa,fa];have U:=ve C.dig j;have Y:=ve D.dig j;have J:=ks C.dig j;have N:=ks D.dig j;rw[gk,gk]at z;have hp:=iv j;refine Ok.cd (fun h=>?_) (fun h=>Ok.cd (fun q=>?_) (fun q=>?_))
    ·have E:=dcT h;have:pB j*1<=pB j*(b.getD j 0-a.getD j 0):=mlT (by omega) (by omega);rw[Int.mul_sub]at this;exact aC.2 (me (by omega)).symm
    ·have E:=dcT q;have:pB j*1<=pB j*(a.getD j 0-b.getD j 0):=mlT (by omega) (by omega);rw[Int.mul_sub]at this;exact aC.2 (pP (by omega)).symm
    ·have g1:=dcF h;have g2:=dcF q;have e:a.getD j 0=b.getD j 0:=by omega
     rw[e]at z;refine I _ ⟨j,by rw[wrap64_in (by omega) (by omega)],by omega,by omega⟩ (by rw[wrap64_in (by omega) (by omega)];omega)
   ·have:=dcF h;obtain rfl:k=0:=by omega
    rw[jS,jS]at z;refine aC.2 ?_;show sgn _=0;rw[z];rfl
  ·rintro(_|r) h
   ·exact aC.2 h.symm
   ·exact aC.2 h
theorem zl{n:Nat}{x y:aj}{v w:Int}(D:1000<=n)(j:isI x.Negative x.Groups v)(C:isI y.Negative y.Groups w)(I:x.Groups.length<=400)(J:y.Groups.length<=400):Ok (gC n x y) fun z=>isI z.Negative z.Groups (v+w):=by
 unfold gC;refine Ok.bde (lU D (by omega) j) (Ok.bde (lU D (by omega) C) ?_);obtain⟨p,a⟩:=x;obtain⟨q,b⟩:=y;simp only at j C I J;dsimp only;have S:∀{r:List Int},Can r->vl r<=vl a+vl b->r.length<=900:=by
  intro r T U;have:=lW T (k:=401) (by
   have Y:=iu j.1.dig;have a2:=iu C.1.dig;have Z:=iX I;have p2:=iX J;have p3:pB 401=1000000000*pB 400:=dE 400;have:=iv 400;omega)
  omega
 have pa:=bI j.1.dig;have pb:=bI C.1.dig;refine Ok.cd (fun h=>?_) (fun h=>?_)
 ·have E:p=q:=by simpa using h
  subst E;refine Ok.bd (wZ D j.1.dig C.1.dig I J) ?_;rintro r ⟨h1,N⟩;refine Ok.bd (eD D _ h1.dig (S h1 (by omega))) fun z O=>aC.2 ?_
  have:v+w=if p=true then-vl r else vl r:=by rw[j.2.2,C.2.2,N];cases p<;>simp<;>omega
  rw[this];exact O
 ·rw[zQ D j.1 C.1 I J];show Ok (cdO _ _ _) _;have E:p=!q:=by cases p<;>cases q<;>simp at h ⊢
  refine Ok.cd (fun h=>?_) (fun h=>?_)
  ·have hle:vl b<=vl a:=by
    by_cases R:vl a-vl b<0
    ·rw[me R]at h;simp at h
    ·omega
   have hlen:b.length<=a.length:=by
    by_cases R:a.length<b.length
    ·have:=de j.1.dig C.1 R;omega
    ·omega
   refine Ok.bd (nX D j.1.dig C.1.dig I hlen hle) ?_;rintro r ⟨h1,N⟩;refine Ok.bd (eD D _ h1.dig (S h1 (by omega))) fun z O=>aC.2 ?_
   have:v+w=if p=true then-vl r else vl r:=by rw[j.2.2,C.2.2,N,E];cases q<;>simp<;>omega
   rw[this];exact O
  ·have hle:vl a<vl b:=by
    rcases dS (vl a-vl b)with⟨g1,g2⟩|⟨g1,g2⟩|⟨g1,g2⟩
    ·omega
    ·rw[g2]at h;simp at h
    ·rw[g2]at h;simp at h
   have hlen:a.length<=b.length:=by
    by_cases R:b.length<a.length
    ·have:=de C.1.dig j.1 R;omega
    ·omega
   refine Ok.bd (nX D C.1.dig j.1.dig J hlen (by omega)) ?_;rintro r ⟨h1,N⟩;refine Ok.bd (eD D _ h1.dig (S h1 (by omega))) fun z O=>aC.2 ?_
   have:v+w=if q=true then-vl r else vl r:=by rw[j.2.2,C.2.2,N,E];cases q<;>simp<;>omega
   rw[this];exact O
theorem Eo{n:Nat}{x y:aj}{v w:Int}(C:1000<=n)(D:isI x.Negative x.Groups v)(j:isI y.Negative y.Groups w)(E:x.Groups.length<=400)(I:y.Groups.length<=400):Ok (dO n x y) fun z=>isI z.Negative z.Groups (v-w):=by
 unfold dO;refine Ok.bd (oZ C (by omega) j) fun z q=>?_
 have J:z.Groups.length<=400:=lW q.1 (k:=400) (by
  have h1:=iJ q;have O:=iJ j;have R:=iu j.1.dig;have:=iX I;omega)
 refine Ok.bd (zl C D q E J) fun r N=>aC.2 ?_
 rw[(by omega:v-w=v+-w)];exact N
theorem oz{n:Nat}{x y:aj}{v w:Int}(Z:1000<=n)(D:isI x.Negative x.Groups v)(E:isI y.Negative y.Groups w)(lx:x.Groups.length<=400)(ly:y.Groups.length<=400):Ok (cP n x y) fun z=>isI z.Negative z.Groups (v*w):=by
 unfold cP;refine Ok.bde (lU Z (by omega) D) (Ok.bde (lU Z (by omega) E) ?_);obtain⟨p,a⟩:=x;obtain⟨q,b⟩:=y;simp only at D E lx ly;dsimp only;have ha:=D.1.dig;have hb:=E.1.dig;rw[nQ (by omega) (by omega)];refine Ok.gd (by simp;try omega) (Ok.gd (by simp;try omega) (Ok.gd (by simp;try omega) ?_));refine Ok.bd (R:=fun r=>Dig r/\r.length<=900/\vl r=vl a*vl b) ?_ (fun r h=>Ok.bd (eD Z _ h.1 h.2.1) fun z hz=>aC.2 ?_)
 ·refine ee (fun x:List Int×Int=>∃i:Nat,x.2=(i:Int)/\i<=a.length/\x.1.length=a.length+b.length/\Dig x.1/\(∀j,i+b.length<=j->x.1.getD j 0=0)/\vl x.1=vk a i*vl b) (fun x=>a.length-x.2.toNat) ?_ n _
   ⟨0,rfl,by omega,(by simp;omega),ry _,fun j _=>vH,by simp[jS,we]⟩ (by simp;omega)
  rintro again ⟨out,x⟩ ⟨i,D,h4,h5,h6,h7,U⟩ ih;simp only at D h5 h6 h7 U;subst D;dsimp only;have da:=dC ha i;refine Ok.cd (fun h=>?_) (fun h=>?_)
  ·have hi:i<a.length:=by simp at h;omega
   refine Ok.bd (R:=fun r=>r.1.length=a.length+b.length/\Dig r.1/\(0<=r.2/\r.2<1000000000)/\(∀j,i+b.length<=j->r.1.getD j 0=0)/\vl r.1+pB (i+b.length)*r.2=vk a i*vl b+pB i*a.getD i 0*vl b) ?_ ?_
   ·refine ee (fun y:List Int×Int×Int=>∃j:Nat,y.2.2=(j:Int)/\j<=b.length/\y.1.length=a.length+b.length/\Dig y.1/\(0<=y.2.1/\y.2.1<1000000000)/\(∀m,i+b.length<=m->y.1.getD m 0=0)/\vl y.1+pB (i+j)*y.2.1=vk a i*vl b+pB i*a.getD i 0*vk b j) (fun y=>b.length-y.2.2.toNat) ?_ n _
     ⟨0,rfl,by omega,h5,h6,by simp,h7,by simp[jS,U]⟩ (by simp;omega)
    rintro Y ⟨C,c,y⟩ ⟨j,E,k4,N,I,O,J,S⟩ a1;simp only at E N I O J S;subst E;dsimp only;have db:=dC hb j;refine Ok.cd (fun h=>?_) (fun h=>?_)
    ·have hj:j<b.length:=by simp at h;omega
     rw[nQ (by omega) (by omega)];refine Ok.gd (by rw[bm];simp;omega) (Ok.gd (by rw[bm];simpa using hi) (Ok.gd (by rw[bm];simpa using hj) ?_));rw[fa,fa,fa];have T:=dC I (i+j);obtain⟨e1,e2,e3⟩:=xV da db T O;rw[e1];generalize hs:C.getD (i+j) 0+a.getD i 0*b.getD j 0+c=s at e1 e2 e3;rw[(td e2).1,(td e2).2,bU (by omega) (by omega),aO (by omega) (by omega),kK (by omega),Int.toNat_natCast];refine a1 _ ⟨j+1,rfl,by omega,by simpa using N,kD I (by omega),by simp only;omega,?_,?_⟩ (by simp;omega)
     ·intro m hm;simp only;rw[jL (by omega)];exact J m hm
     ·simp only;rw[nz (by omega),gk,<-Nat.add_assoc,dE,mB];rw[mB]at S;have:s=s%1000000000+1000000000*(s / 1000000000):=by omega
      grind
    ·have hj:j=b.length:=by simp at h;omega
     subst hj;rw[gV (l:=b) (by omega)]at S;exact aC.2 ⟨N,I,O,J,S⟩
   ·rintro⟨C,c⟩ ⟨N,I,O,J,S⟩;simp only at N I O J S;dsimp only;rw[nQ (by omega) (by omega)];refine Ok.gd (by rw[bm];simp;omega) ?_;rw[bU (by omega) (by omega),kK (by omega),Int.toNat_natCast];refine ih _ ⟨i+1,rfl,by omega,by simpa using N,kD I O,?_,?_⟩ (by simp;omega)
    ·intro m hm;simp only;rw[jL (by omega)];exact J m (by omega)
    ·simp only;rw[nz (by omega),gk,J _ (by omega)];grind
  ·have hi:i=a.length:=by simp at h;omega
   subst hi;rw[gV (l:=a) (by omega)]at U;exact aC.2 ⟨h6,by omega,U⟩
 ·have:v*w=if (p !=q)=true then-vl r else vl r:=by
   rw[D.2.2,E.2.2,h.2.2];cases p<;>cases q<;>simp<;>grind
  rw[this];exact hz
end Go.L.R

