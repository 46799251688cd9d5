import Derived.Test.YtfhhaadcodofnaaGreatChkLD
import Derived.Test.YtfhhaadcodofnaaGreatPl6Chks
set_option linter.all false
namespace Go.L.R
open Go Go.Eng Go.L
theorem dY{l:List Int}{k:Nat}:gt l (k:Int)=l.getD k 0:=jo
theorem kp{k:Nat}(h:k<=4000000000):Ki ((k:Int)+1)=((k+1:Nat):Int):=by rw[wrap64_in (by omega) (by omega)];omega
theorem kG{k:Nat}(h:0<k)(h2:k<=4000000000):Ki ((k:Int)-1)=((k-1:Nat):Int):=by rw[wrap64_in (by omega) (by omega)];omega
theorem nw{j k:Nat}(h:j<=4000000000)(h2:k<=4000000000):Ki ((j:Int)+(k:Int))=((j+k:Nat):Int):=by rw[wrap64_in (by omega) (by omega)];omega
theorem yy{p q o c:Int}(hp:0<=p/\p<1000000000)(j:0<=q/\q<1000000000)(m:0<=o/\o<1000000000)(hc:0<=c/\c<1000000000):
  ae .u64 ((ae .u64 ((ae .u64 o)+(ae .u64 ((ae .u64 p)*(ae .u64 q)))))+c)=o+p*q+c/\0<=o+p*q+c/\o+p*q+c<1000000000000000000:=by
 have h1:0<=p*q:=Int.mul_nonneg hp.1 j.1;have h2:p*q<=999999999*999999999:=Int.mul_le_mul (by omega) (by omega) j.1 (by omega);rw[aI (n:=o) (by omega) (by omega),aI (n:=p) (by omega) (by omega),aI (n:=q) (by omega) (by omega),aI (n:=p*q) (by omega) (by omega),aI (n:=o+p*q) (by omega) (by omega),aI (by omega) (by omega)];exact⟨rfl,by omega,by omega⟩
theorem uT{l:List Int}{j:Nat}(h:l.length<=j):l.getD j 0=0:=by simp[List.getD,List.getElem?_eq_none h]
theorem vR{k j:Nat}:(List.replicate k (0:Int)).getD j 0=0:=by
 by_cases h:j<k
 ·simp[List.getD,h]
 ·exact uT (by simpa using h)
theorem eM{n:Nat}{g:List Int}(O:1000<=n)(neg:Bool)(hd:Dig g)(T:g.length<=900):Ok (ba n neg g) fun z=>isI z.Negative z.Groups (if neg then-vl g else vl g):=by
 unfold ba;refine Ok.bd (R:=fun k:Int=>∃j:Nat,k=(j:Int)/\j<=g.length/\(∀m,j<=m->g.getD m 0=0)/\(0<j->g.getD (j-1) 0≠0)) ?_ ?_
 ·refine eE (fun k:Int=>∃j:Nat,k=(j:Int)/\j<=g.length/\(∀m,j<=m->g.getD m 0=0)) (fun k=>k.toNat) ?_ n _ ⟨g.length,rfl,Nat.le_refl _,fun m hm=>uT hm⟩ (by simp;omega);rintro again k ⟨j,rfl,h1,h2⟩ I;refine Ok.cd (fun h=>?_) (fun h=>?_)
  ·have q:0<j:=by simp at h;omega
   rw[kG q (by omega)];refine Ok.gd (by rw[bj];simp;omega) ?_;rw[dY];refine Ok.cd (fun h=>?_) (fun h=>?_)
   ·refine I _ ⟨j-1,rfl,by omega,fun m hm=>?_⟩ (by simp;omega);by_cases D:m=j-1
    ·rw[D];simpa using h
    ·exact h2 m (by omega)
   ·exact aw.2 ⟨j,rfl,h1,h2,fun _=>by simpa using h⟩
  ·have:j=0:=by simp at h;omega
   subst this;exact aw.2 ⟨0,rfl,by omega,h2,fun h=>by omega⟩
 ·rintro _ ⟨j,rfl,h1,h2,J⟩;have e:(g.drop (0:Int).toNat).take ((j:Int).toNat-(0:Int).toNat)=g.take j:=by simp
  rw[e];have hc:Can (g.take j):=Be (sT hd _) (by
   by_cases C:j=0
   ·left;rw[C];rfl
   ·right;rw[List.length_take,Nat.min_eq_left h1];have:=J (by omega);simpa [List.getD,List.getElem?_take,(by omega:j-1<j)]using this)
  have E:vl (g.take j)=vl g:=Ah h1 h2;refine Ok.cd (fun h=>?_) (fun h=>?_)
  ·refine Ok.gd (uZ.2 (by omega)) (Ok.gd (by simp;omega) (Ok.gd (by simp;omega) (aw.2 ?_)));subst h;by_cases C:j=0
   ·subst C;refine⟨hc,fun h=>by simp at h,?_⟩;rw[if_pos rfl,<-E];rfl
   ·refine⟨hc,fun _ N=>?_,?_⟩
    ·have:=congrArg List.length N;rw[List.length_take,Nat.min_eq_left h1]at this;exact C this
    ·have:decide ((j:Int)>0)=true:=by simp;omega
     simp only[this,if_true,E]
  ·refine Ok.gd (uZ.2 (by omega)) (Ok.gd (by simp;omega) (Ok.gd (by simp;omega) (aw.2 ?_)));subst h;exact⟨hc,fun h=>by simp at h,by simp[E]⟩
theorem mq{n:Nat}{v:Int}(U:1000<=n)(I:0<=v)(Y:v<18446744073709551616):Ok (aP (α:=Int×List Int) (β:=List Int) n (fun again x=>match x with
  |(z,j)=>(
   cdO (decide (z>0)) (
    gdO (decide ((j.length+1)*4<=140737488355328)) (
    gdO (decide (j.length+1<=4611686018427387904)) (
    again (ae .u64 (z.tdiv 1000000000),j++[ae .u32 (z.tmod 1000000000)])
    )
    )
   ) (
    some (j)
   )
  )) (v,[])) fun r=>Can r/\vl r=v/\r.length<=3:=by
 refine eE (fun x:Int×List Int=>Dig x.2/\0<=x.1/\vl x.2+pB x.2.length*x.1=v/\x.2.length<=3/\(x.1=0->Can x.2)) (fun x=>4-x.2.length) ?_ n (v,[]) ⟨oA,I,by show 0+1*v=v;omega,by simp,fun _=>trivial⟩ (by simp;omega);rintro again ⟨m,g⟩ ⟨h1,h2,C,D,E⟩ J;simp only at h1 h2 C D E;have hg:=bn h1;have hp:=iO g.length;have N:m<=v:=by
  have:m<=pB g.length*m:=by
   have:=mrT hp h2;omega
  omega
 refine Ok.cd (fun h=>?_) (fun h=>?_)
 ·have hm:0<m:=by simpa using h
  have hlen:g.length<=2:=by
   by_cases h:g.length<=2
   ·exact h
   ·have O:g.length=3:=by omega
    rw[O]at C;have:pB 3=1000000000000000000000000000:=rfl;rw[this]at C;omega
  refine Ok.gd (by simp;omega) (Ok.gd (by simp;omega) ?_);have e1:m.tdiv 1000000000=m / 1000000000:=Int.tdiv_eq_ediv_of_nonneg h2;have e2:m.tmod 1000000000=m%1000000000:=Int.tmod_eq_emod_of_nonneg h2;rw[e1,e2,aI (by omega) (by omega),bt (by omega) (by omega)];have q:0<=m%1000000000/\m%1000000000<1000000000:=by omega
  refine J _ ⟨lN.2 ⟨h1,gI.2 q⟩,by simp only;omega,?_,by simp;omega,fun T=>xF h1 q (by simp only at T;omega)⟩ (by simp;omega);simp only;rw[mR,iP,List.length_append,List.length_singleton,df];have:m=m%1000000000+1000000000*(m / 1000000000):=by omega
  rw[<-C];grind
 ·have hm:m=0:=by simp at h;omega
  subst hm;exact aw.2 ⟨E rfl,by omega,D⟩
theorem zZ{n:Nat}{v:Int}(q:1000<=n)(D:-9223372036854775808<=v)(E:v<=9223372036854775807):Ok (iv n v) fun z=>isI z.Negative z.Groups v:=by
 unfold iv;refine Ok.cd (fun h=>?_) (fun h=>?_)
 ·have j:v<0:=by simpa using h
  have e:ae .u64 (ae .u64 (Ki (0-Ki (v+1)))+1)=-v:=by
   rw[wrap64_in (n:=v+1) (by omega) (by omega),wrap64_in (by omega) (by omega),aI (n:=0-(v+1)) (by omega) (by omega),aI (by omega) (by omega)];omega
  rw[e];refine Ok.bd (mq q (by omega) (by omega)) ?_;rintro r ⟨h1,h2,C⟩;refine Ok.bd (eM q true h1.dig (by omega)) ?_;intro z m;rw[h2]at m;refine aw.2 ?_;simpa using m
 ·have j:0<=v:=by simpa using h
  rw[aI j (by omega)];refine Ok.bd (mq q (by omega) (by omega)) ?_;rintro r ⟨h1,h2,C⟩;refine Ok.bd (eM q false h1.dig (by omega)) ?_;intro z m;rw[h2]at m;exact aw.2 m
theorem mi{n:Nat}{x:ai}{v:Int}(C:1000<=n)(D:x.Groups.length<=900)(h:isI x.Negative x.Groups v):cE n x=some true:=by
 obtain⟨h1,h2,E⟩:=h;apply Ok.eq;unfold cE;refine Ok.bd (R:=fun o=>match o with|.inl _=>True|.inr _=>False) ?_ ?_
 ·refine vB (len:=x.Groups.length) (fun k=>True) (by omega) (by omega) trivial ?_ ?_
  ·intro again k hk _ q;refine Ok.cd (fun _=>?_) (fun h=>?_)
   ·refine Ok.gd (by rw[bj];simpa using hk) ?_;rw[dY];have:=cW h1.dig k;refine Ok.cd (fun h=>?_) (fun h=>q trivial);have:=dcT h;omega
   ·simp at h;omega
  ·intro again _;refine Ok.cd (fun h=>?_) (fun h=>aw.2 trivial);simp at h
 ·rintro(_|r) h
  ·refine Ok.cd (fun h=>?_) (fun h=>?_)
   ·have m:x.Groups=[]:=by simpa using h
    refine aw.2 ?_;cases z:x.Negative with|false=>rfl|true=>exact absurd m (h2 z)
   ·have m:x.Groups≠[]:=by simpa using h
    have j:0<x.Groups.length:=List.length_pos_iff.2 m;rw[kG j (by omega)];refine Ok.gd (by rw[bj];simp;omega) (aw.2 ?_);rw[dY];simpa using sb h1 m
  ·exact h.elim
theorem lE{n:Nat}{x:ai}{v:Int}(j:1000<=n)(m:x.Groups.length<=900)(h:isI x.Negative x.Groups v):bu n x=some x:=by
 unfold bu;rw[mi j m h];show gdO _ (gdO _ _)=_;have e1:decide ((0+x.Groups.length)*4<=140737488355328)=true:=by simp;omega
 have e2:decide (0+x.Groups.length<=4611686018427387904)=true:=by simp;omega
 rw[e1,e2];rfl
theorem kW{n:Nat}{x:ai}{v:Int}(j:1000<=n)(m:x.Groups.length<=900)(h:isI x.Negative x.Groups v):cx n x=some (sgn v):=by
 unfold cx;rw[lE j m h,DT h];show cdO _ _ _=_;by_cases hx:x.Groups=[]
 ·rw[hx];rfl
 ·have e:(((x.Groups.length:Int):Int)==0)=false:=by simp[hx]
  rw[e,if_neg hx];cases x.Negative<;>rfl
theorem pJ{n:Nat}{x:ai}{v:Int}(j:1000<=n)(m:x.Groups.length<=900)(h:isI x.Negative x.Groups v):Ok (fq n x) fun z=>isI z.Negative z.Groups (-v):=by
 unfold fq;refine Ok.bde (lE j m h) ?_;refine Ok.bd (eM j _ h.1.dig m) fun z q=>aw.2 ?_
 have:-v=if (!x.Negative)=true then-vl x.Groups else vl x.Groups:=by rw[h.2.2];cases x.Negative<;>simp
 rw[this];exact q
theorem nB{n:Nat}{l:List Int}{k:Nat}(h:Dig l):bg n l (k:Int)=some (l.getD k 0):=by
 unfold bg;have hd:=cW h k;by_cases h:k<l.length
 ·have e:decide ((k:Int)<(l.length:Int))=true:=by simp;omega
  rw[e,bj,dY];have e:decide (k<l.length)=true:=by simpa using h
  rw[e,aI (by omega) (by omega)];rfl
 ·have e:decide ((k:Int)<(l.length:Int))=false:=by simp;omega
  rw[e,uT (by omega)];rfl
end Go.L.R


set_option linter.all false
namespace Go.L.R
open Go Go.Eng Go.L
theorem td{m:Int}(h:0<=m):m.tdiv 1000000000=m / 1000000000/\m.tmod 1000000000=m%1000000000:=⟨Int.tdiv_eq_ediv_of_nonneg h,Int.tmod_eq_emod_of_nonneg h⟩
theorem Ay{n:Nat}{a b:List Int}(N:1000<=n)(ha:Dig a)(hb:Dig b)(O:a.length<=400)(lb:b.length<=400):Ok (iE n a b) fun r=>Can r/\vl r=vl a+vl b:=by
 unfold iE;obtain⟨M,h1,h2,h3,h4⟩:∃M:Nat,a.length<=M/\b.length<=M/\M<=400/\(M=a.length\/M=b.length):=by
  by_cases h:a.length<=b.length
  ·exact⟨b.length,h,by omega,lb,.inr rfl⟩
  ·exact⟨a.length,by omega,by omega,O,.inl rfl⟩
 refine Ok.bd (R:=fun r=>Dig r.1/\r.1.length=M/\(r.2=0\/r.2=1)/\vl r.1+pB M*r.2=vl a+vl b) ?_ ?_
 ·refine eE (fun x:List Int×Int×Int=>∃k:Nat,x.2.2=(k:Int)/\k<=M/\x.1.length=k/\Dig x.1/\(x.2.1=0\/x.2.1=1)/\vl x.1+pB k*x.2.1=vk a k+vk b k) (fun x=>M-x.2.2.toNat) ?_ n _
   ⟨0,rfl,by omega,rfl,oA,.inl rfl,by simp[jK,vl]⟩ (by simp;omega)
  rintro again ⟨out,c,x⟩ ⟨k,hx,C,m,q,D,E⟩ T;simp only at hx m q D E;subst hx;dsimp only;rw[nB ha,nB hb];have da:=cW ha k;have db:=cW hb k;have step:k<M->Ok (bdO (some (a.getD k 0)) fun v22=>bdO (some (b.getD k 0)) fun v24=>gdO (decide ((out.length+1)*4<=140737488355328)) (gdO (decide (out.length+1<=4611686018427387904)) (again (out++[ae .u32 ((ae .u64 ((ae .u64 (v22+v24))+c)).tmod 1000000000)],ae .u64 ((ae .u64 ((ae .u64 (v22+v24))+c)).tdiv 1000000000),Ki ((k:Int)+1)))))
    fun r=>Dig r.1/\r.1.length=M/\(r.2=0\/r.2=1)/\vl r.1+pB M*r.2=vl a+vl b:=by
   intro hk;show Ok (gdO _ _) _;refine Ok.gd (by simp;omega) (Ok.gd (by simp;omega) ?_);generalize hs:ae .u64 (ae .u64 (a.getD k 0+b.getD k 0)+c)=s;have U:s=a.getD k 0+b.getD k 0+c:=by rw[<-hs,aI (n:=a.getD k 0+b.getD k 0) (by omega) (by omega),aI (by omega) (by omega)]
   rw[(td (by omega)).1,(td (by omega)).2,aI (by omega) (by omega),bt (by omega) (by omega),kp (by omega)];refine T _ ⟨k+1,rfl,by omega,by simp;omega,lN.2 ⟨q,gI.2 (by omega)⟩,by simp only;omega,?_⟩ (by simp;omega);simp only;rw[mR,iP,m,gp,gp,df];have:a.getD k 0+b.getD k 0+c=s%1000000000+1000000000*(s / 1000000000):=by omega
   grind
  refine Ok.cd (fun h=>?_) (fun h=>Ok.cd (fun I=>?_) (fun I=>?_))
  ·exact step (by have:=dcT h;omega)
  ·exact step (by have:=dcT I;omega)
  ·have:=dcF h;have:=dcF I;obtain rfl:k=M:=by omega
   rw[ia (l:=a) (by omega),ia (l:=b) (by omega)]at E;exact aw.2 ⟨q,m,D,E⟩
 ·rintro⟨out,c⟩ ⟨C,m,q,D⟩;simp only at C m q D;dsimp only;refine Ok.gd (by simp;omega) (Ok.gd (by simp;omega) ?_);rw[bt (by omega) (by omega)];refine Ok.bd (eM N false (lN.2 ⟨C,gI.2 (by omega)⟩) (by simp;omega)) fun z J=>aw.2 ⟨J.1,?_⟩
  have:=J.2.2;have j:=iI J;have Y:=bn C;have a1:=iO M;rw[mR,iP,m]at j;have:0<=vl a+vl b:=by have:=bn ha;have:=bn hb;omega
  simp only[Bool.false_eq_true,if_false]at j;omega
theorem qC{n:Nat}{a b:List Int}(I:1000<=n)(ha:Dig a)(hb:Dig b)(O:a.length<=400)(lb:b.length<=a.length)(hle:vl b<=vl a):Ok (cA n a b) fun r=>Can r/\vl r=vl a-vl b:=by
 unfold cA;refine Ok.bd (R:=fun r=>Dig r/\r.length=a.length/\vl r=vl a-vl b) ?_ ?_
 ·refine eE (fun x:List Int×Int×Int=>∃k:Nat,x.2.2=(k:Int)/\k<=a.length/\x.1.length=k/\Dig x.1/\(x.2.1=0\/x.2.1=1)/\vl x.1-pB k*x.2.1=vk a k-vk b k) (fun x=>a.length-x.2.2.toNat) ?_ n _
   ⟨0,rfl,by omega,rfl,oA,.inl rfl,by simp[jK,vl]⟩ (by simp;omega)
  rintro again ⟨out,c,x⟩ ⟨k,hx,D,m,q,j,C⟩ J;simp only at hx m q j C;subst hx;dsimp only;rw[nB ha,nB hb];have T:=cW ha k;have U:=cW hb k;refine Ok.cd (fun h=>?_) (fun h=>?_)
  ·have hk:k<a.length:=by have:=dcT h;omega
   show Ok (gdO _ _) _;refine Ok.gd (by simp;omega) (Ok.gd (by simp;omega) ?_);generalize hs:ae .u64 (ae .u64 (ae .u64 (1000000000+a.getD k 0)-b.getD k 0)-c)=s;have N:s=1000000000+a.getD k 0-b.getD k 0-c:=by rw[<-hs,aI (n:=1000000000+a.getD k 0) (by omega) (by omega),aI (n:=1000000000+a.getD k 0-b.getD k 0) (by omega) (by omega),aI (by omega) (by omega)]
   rw[(td (by omega)).1,(td (by omega)).2,aI (n:=s / 1000000000) (by omega) (by omega),aI (by omega) (by omega),bt (by omega) (by omega),kp (by omega)];refine J _ ⟨k+1,rfl,by omega,by simp;omega,lN.2 ⟨q,gI.2 (by omega)⟩,by simp only;omega,?_⟩ (by simp;omega);simp only;rw[mR,iP,m,gp,gp,df];have:a.getD k 0-b.getD k 0-c=s%1000000000+1000000000*(s / 1000000000)-1000000000:=by omega
   grind
  ·have:=dcF h;obtain rfl:k=a.length:=by omega
   rw[ia (l:=a) (by omega),ia (l:=b) (by omega)]at C;refine aw.2 ⟨q,m,?_⟩;have:=iZ q;rw[m]at this;rcases j with j|j
   ·rw[j]at C;omega
   ·rw[j]at C;omega
 ·rintro r ⟨D,m,q⟩;refine Ok.bd (eM I false D (by omega)) fun z E=>aw.2 ⟨E.1,?_⟩
  have:=iI E;simp only[Bool.false_eq_true,if_false]at this;omega
theorem Af{n:Nat}{a b:List Int}(E:1000<=n)(ha:Can a)(hb:Can b)(I:a.length<=400)(lb:b.length<=400):dG n a b=some (sgn (vl a-vl b)):=by
 apply Ok.eq;unfold dG;refine Ok.cd (fun h=>Ok.cd (fun m=>?_) (fun m=>?_)) (fun h=>?_)
 ·have:=dcT m;have:=cS ha.dig hb (by omega);exact aw.2 (nf (by omega)).symm
 ·have h1:=dcF m;have h2:a.length≠b.length:=by intro e;rw[e]at h;simp at h
  have:=cS hb.dig ha (by omega);exact aw.2 (rj (by omega)).symm
 ·have J:a.length=b.length:=by simp at h;omega
  refine Ok.bd (R:=fun o=>match o with|.inl _=>sgn (vl a-vl b)=0|.inr r=>r=sgn (vl a-vl b)) ?_ ?_
  ·refine eE (fun i:Int=>∃k:Nat,i=(k:Int)-1/\k<=a.length/\vl a-vl b=vk a k-vk b k) (fun i=>(i+1).toNat) ?_ n _ ⟨a.length,by rw[wrap64_in (by omega) (by omega)],Nat.le_refl _,by rw[ia (by omega),ia (by omega)]⟩ (by rw[wrap64_in (by omega) (by omega)];omega);rintro again _ ⟨k,rfl,h1,h2⟩ z;refine Ok.cd (fun h=>?_) (fun h=>?_)
   ·have hk:=dcT h;obtain⟨j,rfl⟩:∃j,k=j+1:=⟨k-1,by omega⟩;have e:(((j+1:Nat):Int)-1)=(j:Int):=by omega
    rw[e];refine Ok.gd (by rw[bj];simp;omega) (Ok.gd (by rw[bj];simp;omega) ?_);rw[dY,dY];have N:=vn ha.dig j;have O:=vn hb.dig j;have C:=jW ha.dig j;have D:=jW hb.dig j;rw[gp,gp]at h2;have hp:=iO j;refine Ok.cd (fun h=>?_) (fun h=>Ok.cd (fun m=>?_) (fun m=>?_))
    ·have q:=dcT h;have:pB j*1<=pB j*(b.getD j 0-a.getD j 0):=mlT (by omega) (by omega);rw[Int.mul_sub]at this;exact aw.2 (nf (by omega)).symm
    ·have q:=dcT m;have:pB j*1<=pB j*(a.getD j 0-b.getD j 0):=mlT (by omega) (by omega);rw[Int.mul_sub]at this;exact aw.2 (rj (by omega)).symm
    ·have g1:=dcF h;have g2:=dcF m;have e:a.getD j 0=b.getD j 0:=by omega
     rw[e]at h2;refine z _ ⟨j,by rw[wrap64_in (by omega) (by omega)],by omega,by omega⟩ (by rw[wrap64_in (by omega) (by omega)];omega)
   ·have:=dcF h;obtain rfl:k=0:=by omega
    rw[jK,jK]at h2;refine aw.2 ?_;show sgn _=0;rw[h2];rfl
  ·rintro(_|r) h
   ·exact aw.2 h.symm
   ·exact aw.2 h
theorem Gq{n:Nat}{x y:ai}{v w:Int}(m:1000<=n)(hx:isI x.Negative x.Groups v)(j:isI y.Negative y.Groups w)(D:x.Groups.length<=400)(E:y.Groups.length<=400):Ok (gF n x y) fun z=>isI z.Negative z.Groups (v+w):=by
 unfold gF;refine Ok.bde (lE m (by omega) hx) (Ok.bde (lE m (by omega) j) ?_);obtain⟨p,a⟩:=x;obtain⟨q,b⟩:=y;simp only at hx j D E;dsimp only;have N:∀{r:List Int},Can r->vl r<=vl a+vl b->r.length<=900:=by
  intro r O T;have:=mM O (k:=401) (by
   have U:=iZ hx.1.dig;have a2:=iZ j.1.dig;have Y:=jJ D;have p2:=jJ E;have p3:pB 401=1000000000*pB 400:=df 400;have:=iO 400;omega)
  omega
 have pa:=bn hx.1.dig;have pb:=bn j.1.dig;refine Ok.cd (fun h=>?_) (fun h=>?_)
 ·have C:p=q:=by simpa using h
  subst C;refine Ok.bd (Ay m hx.1.dig j.1.dig D E) ?_;rintro r ⟨h1,h2⟩;refine Ok.bd (eM m _ h1.dig (N h1 (by omega))) fun z I=>aw.2 ?_
  have:v+w=if p=true then-vl r else vl r:=by rw[hx.2.2,j.2.2,h2];cases p<;>simp<;>omega
  rw[this];exact I
 ·rw[Af m hx.1 j.1 D E];show Ok (cdO _ _ _) _;have C:p=!q:=by cases p<;>cases q<;>simp at h ⊢
  refine Ok.cd (fun h=>?_) (fun h=>?_)
  ·have hle:vl b<=vl a:=by
    by_cases J:vl a-vl b<0
    ·rw[nf J]at h;simp at h
    ·omega
   have hlen:b.length<=a.length:=by
    by_cases J:a.length<b.length
    ·have:=cS hx.1.dig j.1 J;omega
    ·omega
   refine Ok.bd (qC m hx.1.dig j.1.dig D hlen hle) ?_;rintro r ⟨h1,h2⟩;refine Ok.bd (eM m _ h1.dig (N h1 (by omega))) fun z I=>aw.2 ?_
   have:v+w=if p=true then-vl r else vl r:=by rw[hx.2.2,j.2.2,h2,C];cases q<;>simp<;>omega
   rw[this];exact I
  ·have hle:vl a<vl b:=by
    rcases di (vl a-vl b)with⟨g1,g2⟩|⟨g1,g2⟩|⟨g1,g2⟩
    ·omega
    ·rw[g2]at h;simp at h
    ·rw[g2]at h;simp at h
   have hlen:a.length<=b.length:=by
    by_cases J:b.length<a.length
    ·have:=cS j.1.dig hx.1 J;omega
    ·omega
   refine Ok.bd (qC m j.1.dig hx.1.dig E hlen (by omega)) ?_;rintro r ⟨h1,h2⟩;refine Ok.bd (eM m _ h1.dig (N h1 (by omega))) fun z I=>aw.2 ?_
   have:v+w=if q=true then-vl r else vl r:=by rw[hx.2.2,j.2.2,h2,C];cases q<;>simp<;>omega
   rw[this];exact I
theorem Fo{n:Nat}{x y:ai}{v w:Int}(q:1000<=n)(hx:isI x.Negative x.Groups v)(j:isI y.Negative y.Groups w)(C:x.Groups.length<=400)(D:y.Groups.length<=400):Ok (dr n x y) fun z=>isI z.Negative z.Groups (v-w):=by
 unfold dr;refine Ok.bd (pJ q (by omega) j) fun z m=>?_
 have E:z.Groups.length<=400:=mM m.1 (k:=400) (by
  have h1:=iI m;have h2:=iI j;have J:=iZ j.1.dig;have:=jJ D;omega)
 refine Ok.bd (Gq q hx m C E) fun r I=>aw.2 ?_
 rw[(by omega:v-w=v+-w)];exact I
theorem qQ{n:Nat}{x y:ai}{v w:Int}(hn:1000<=n)(hx:isI x.Negative x.Groups v)(D:isI y.Negative y.Groups w)(lx:x.Groups.length<=400)(ly:y.Groups.length<=400):Ok (cw n x y) fun z=>isI z.Negative z.Groups (v*w):=by
 unfold cw;refine Ok.bde (lE hn (by omega) hx) (Ok.bde (lE hn (by omega) D) ?_);obtain⟨p,a⟩:=x;obtain⟨q,b⟩:=y;simp only at hx D lx ly;dsimp only;have ha:=hx.1.dig;have hb:=D.1.dig;rw[nw (by omega) (by omega)];refine Ok.gd (by simp;try omega) (Ok.gd (by simp;try omega) (Ok.gd (by simp;try omega) ?_));refine Ok.bd (R:=fun r=>Dig r/\r.length<=900/\vl r=vl a*vl b) ?_ (fun r h=>Ok.bd (eM hn _ h.1 h.2.1) fun z hz=>aw.2 ?_)
 ·refine eE (fun x:List Int×Int=>∃i:Nat,x.2=(i:Int)/\i<=a.length/\x.1.length=a.length+b.length/\Dig x.1/\(∀j,i+b.length<=j->x.1.getD j 0=0)/\vl x.1=vk a i*vl b) (fun x=>a.length-x.2.toNat) ?_ n _
   ⟨0,rfl,by omega,(by simp;omega),rI _,fun j _=>vR,by simp[jK,vK]⟩ (by simp;omega)
  rintro again ⟨out,x⟩ ⟨i,hx,h4,h5,h6,h7,U⟩ ih;simp only at hx h5 h6 h7 U;subst hx;dsimp only;have da:=cW ha i;refine Ok.cd (fun h=>?_) (fun h=>?_)
  ·have hi:i<a.length:=by simp at h;omega
   refine Ok.bd (R:=fun r=>r.1.length=a.length+b.length/\Dig r.1/\(0<=r.2/\r.2<1000000000)/\(∀j,i+b.length<=j->r.1.getD j 0=0)/\vl r.1+pB (i+b.length)*r.2=vk a i*vl b+pB i*a.getD i 0*vl b) ?_ ?_
   ·refine eE (fun y:List Int×Int×Int=>∃j:Nat,y.2.2=(j:Int)/\j<=b.length/\y.1.length=a.length+b.length/\Dig y.1/\(0<=y.2.1/\y.2.1<1000000000)/\(∀m,i+b.length<=m->y.1.getD m 0=0)/\vl y.1+pB (i+j)*y.2.1=vk a i*vl b+pB i*a.getD i 0*vk b j) (fun y=>b.length-y.2.2.toNat) ?_ n _
     ⟨0,rfl,by omega,h5,h6,by simp,h7,by simp[jK,U]⟩ (by simp;omega)
    rintro Y ⟨C,c,y⟩ ⟨j,D,k4,J,E,N,I,O⟩ a1;simp only at D J E N I O;subst D;dsimp only;have db:=cW hb j;refine Ok.cd (fun h=>?_) (fun h=>?_)
    ·have hj:j<b.length:=by simp at h;omega
     rw[nw (by omega) (by omega)];refine Ok.gd (by rw[bj];simp;omega) (Ok.gd (by rw[bj];simpa using hi) (Ok.gd (by rw[bj];simpa using hj) ?_));rw[dY,dY,dY];have T:=cW E (i+j);obtain⟨e1,e2,e3⟩:=yy da db T N;rw[e1];generalize hs:C.getD (i+j) 0+a.getD i 0*b.getD j 0+c=s at e1 e2 e3;rw[(td e2).1,(td e2).2,bt (by omega) (by omega),aI (by omega) (by omega),kp (by omega),Int.toNat_natCast];refine a1 _ ⟨j+1,rfl,by omega,by simpa using J,ku E (by omega),by simp only;omega,?_,?_⟩ (by simp;omega)
     ·intro m hm;simp only;rw[ju (by omega)];exact I m hm
     ·simp only;rw[np (by omega),gp,<-Nat.add_assoc,df,mQ];rw[mQ]at O;have:s=s%1000000000+1000000000*(s / 1000000000):=by omega
      grind
    ·have hj:j=b.length:=by simp at h;omega
     subst hj;rw[ia (l:=b) (by omega)]at O;exact aw.2 ⟨J,E,N,I,O⟩
   ·rintro⟨C,c⟩ ⟨J,E,N,I,O⟩;simp only at J E N I O;dsimp only;rw[nw (by omega) (by omega)];refine Ok.gd (by rw[bj];simp;omega) ?_;rw[bt (by omega) (by omega),kp (by omega),Int.toNat_natCast];refine ih _ ⟨i+1,rfl,by omega,by simpa using J,ku E N,?_,?_⟩ (by simp;omega)
    ·intro m hm;simp only;rw[ju (by omega)];exact I m (by omega)
    ·simp only;rw[np (by omega),gp,I _ (by omega)];grind
  ·have hi:i=a.length:=by simp at h;omega
   subst hi;rw[ia (l:=a) (by omega)]at U;exact aw.2 ⟨h6,by omega,U⟩
 ·have:v*w=if (p !=q)=true then-vl r else vl r:=by
   rw[hx.2.2,D.2.2,h.2.2];cases p<;>cases q<;>simp<;>grind
  rw[this];exact hz
end Go.L.R

