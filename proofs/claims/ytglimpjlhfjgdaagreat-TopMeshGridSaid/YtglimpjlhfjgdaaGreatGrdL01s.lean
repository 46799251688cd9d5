import Derived.Test.YtglimpjlhfjgdaaGreatGrdLD
import Derived.Test.YtglimpjlhfjgdaaGreatPl6Grds
set_option linter.all false
namespace Go.L.R
open Go Go.Eng Go.L
theorem dN{l:List Int}{k:Nat}:gt l (k:Int)=l.getD k 0:=fb
theorem jI{k:Nat}(h:k<=4000000000):Jt ((k:Int)+1)=((k+1:Nat):Int):=by rw[wrap64_in (by omega) (by omega)];omega
theorem lS{k:Nat}(h:0<k)(h2:k<=4000000000):Jt ((k:Int)-1)=((k-1:Nat):Int):=by rw[wrap64_in (by omega) (by omega)];omega
theorem mH{j k:Nat}(h:j<=4000000000)(h2:k<=4000000000):Jt ((j:Int)+(k:Int))=((j+k:Nat):Int):=by rw[wrap64_in (by omega) (by omega)];omega
theorem xl{p q o c:Int}(hp:0<=p/\p<1000000000)(j:0<=q/\q<1000000000)(m:0<=o/\o<1000000000)(hc:0<=c/\c<1000000000):
  aa .u64 ((aa .u64 ((aa .u64 o)+(aa .u64 ((aa .u64 p)*(aa .u64 q)))))+c)=o+p*q+c/\0<=o+p*q+c/\o+p*q+c<1000000000000000000:=by
 have h1:0<=p*q:=Int.mul_nonneg hp.1 j.1;have h2:p*q<=999999999*999999999:=Int.mul_le_mul (by omega) (by omega) j.1 (by omega);rw[aE (n:=o) (by omega) (by omega),aE (n:=p) (by omega) (by omega),aE (n:=q) (by omega) (by omega),aE (n:=p*q) (by omega) (by omega),aE (n:=o+p*q) (by omega) (by omega),aE (by omega) (by omega)];exact⟨rfl,by omega,by omega⟩
theorem uw{l:List Int}{j:Nat}(h:l.length<=j):l.getD j 0=0:=by simp[List.getD,List.getElem?_eq_none h]
theorem uT{k j:Nat}:(List.replicate k (0:Int)).getD j 0=0:=by
 by_cases h:j<k
 ·simp[List.getD,h]
 ·exact uw (by simpa using h)
theorem dy{n:Nat}{g:List Int}(M:1000<=n)(neg:Bool)(E:Dig g)(N:g.length<=900):Ok (aR n neg g) fun z=>isI z.Negative z.Groups (if neg then-vl g else vl g):=by
 unfold aR;refine Ok.bd (R:=fun k:Int=>∃j:Nat,k=(j:Int)/\j<=g.length/\(∀m,j<=m->g.getD m 0=0)/\(0<j->g.getD (j-1) 0≠0)) ?_ ?_
 ·refine dx (fun k:Int=>∃j:Nat,k=(j:Int)/\j<=g.length/\(∀m,j<=m->g.getD m 0=0)) (fun k=>k.toNat) ?_ n _ ⟨g.length,rfl,Nat.le_refl _,fun m hm=>uw hm⟩ (by simp;omega);rintro again k ⟨j,rfl,h1,h2⟩ I;refine Ok.cd (fun h=>?_) (fun h=>?_)
  ·have p:0<j:=by simp at h;omega
   rw[lS p (by omega)];refine Ok.gd (by rw[bb];simp;omega) ?_;rw[dN];refine Ok.cd (fun h=>?_) (fun h=>?_)
   ·refine I _ ⟨j-1,rfl,by omega,fun m hm=>?_⟩ (by simp;omega);by_cases C:m=j-1
    ·rw[C];simpa using h
    ·exact h2 m (by omega)
   ·exact ar.2 ⟨j,rfl,h1,h2,fun _=>by simpa using h⟩
  ·have:j=0:=by simp at h;omega
   subst this;exact ar.2 ⟨0,rfl,by omega,h2,fun h=>by omega⟩
 ·rintro _ ⟨j,rfl,h1,h2,J⟩;have e:(g.drop (0:Int).toNat).take ((j:Int).toNat-(0:Int).toNat)=g.take j:=by simp
  rw[e];have hc:Can (g.take j):=Al (qZ E _) (by
   by_cases q:j=0
   ·left;rw[q];rfl
   ·right;rw[List.length_take,Nat.min_eq_left h1];have:=J (by omega);simpa [List.getD,List.getElem?_take,(by omega:j-1<j)]using this)
  have D:vl (g.take j)=vl g:=yB h1 h2;refine Ok.cd (fun h=>?_) (fun h=>?_)
  ·refine Ok.gd (ug.2 (by omega)) (Ok.gd (by simp;omega) (Ok.gd (by simp;omega) (ar.2 ?_)));subst h;by_cases q:j=0
   ·subst q;refine⟨hc,fun h=>by simp at h,?_⟩;rw[if_pos rfl,<-D];rfl
   ·refine⟨hc,fun _ hh=>?_,?_⟩
    ·have:=congrArg List.length hh;rw[List.length_take,Nat.min_eq_left h1]at this;exact q this
    ·have:decide ((j:Int)>0)=true:=by simp;omega
     simp only[this,if_true,D]
  ·refine Ok.gd (ug.2 (by omega)) (Ok.gd (by simp;omega) (Ok.gd (by simp;omega) (ar.2 ?_)));subst h;exact⟨hc,fun h=>by simp at h,by simp[D]⟩
theorem lH{n:Nat}{v:Int}(O:1000<=n)(E:0<=v)(S:v<18446744073709551616):Ok (aK (α:=Int×List Int) (β:=List Int) n (fun again x=>match x with
  |(q,j)=>(
   cdO (decide (q>0)) (
    gdO (decide ((j.length+1)*4<=140737488355328)) (
    gdO (decide (j.length+1<=4611686018427387904)) (
    again (aa .u64 (q.tdiv 1000000000),j++[aa .u32 (q.tmod 1000000000)])
    )
    )
   ) (
    some (j)
   )
  )) (v,[])) fun r=>Can r/\vl r=v/\r.length<=3:=by
 refine dx (fun x:Int×List Int=>Dig x.2/\0<=x.1/\vl x.2+pB x.2.length*x.1=v/\x.2.length<=3/\(x.1=0->Can x.2)) (fun x=>4-x.2.length) ?_ n (v,[]) ⟨nA,E,by show 0+1*v=v;omega,by simp,fun _=>trivial⟩ (by simp;omega);rintro again ⟨m,g⟩ ⟨h1,h2,z,C,D⟩ I;simp only at h1 h2 z C D;have T:=aZ h1;have hp:=gM g.length;have J:m<=v:=by
  have:m<=pB g.length*m:=by
   have:=mrT hp h2;omega
  omega
 refine Ok.cd (fun h=>?_) (fun h=>?_)
 ·have hm:0<m:=by simpa using h
  have hlen:g.length<=2:=by
   by_cases h:g.length<=2
   ·exact h
   ·have M:g.length=3:=by omega
    rw[M]at z;have:pB 3=1000000000000000000000000000:=rfl;rw[this]at z;omega
  refine Ok.gd (by simp;omega) (Ok.gd (by simp;omega) ?_);have e1:m.tdiv 1000000000=m / 1000000000:=Int.tdiv_eq_ediv_of_nonneg h2;have e2:m.tmod 1000000000=m%1000000000:=Int.tmod_eq_emod_of_nonneg h2;rw[e1,e2,aE (by omega) (by omega),bj (by omega) (by omega)];have p:0<=m%1000000000/\m%1000000000<1000000000:=by omega
  refine I _ ⟨kN.2 ⟨h1,fV.2 p⟩,by simp only;omega,?_,by simp;omega,fun N=>wj h1 p (by simp only at N;omega)⟩ (by simp;omega);simp only;rw[lI,gY,List.length_append,List.length_singleton,cL];have:m=m%1000000000+1000000000*(m / 1000000000):=by omega
  rw[<-z];grind
 ·have hm:m=0:=by simp at h;omega
  subst hm;exact ar.2 ⟨D rfl,by omega,C⟩
theorem sC{n:Nat}{v:Int}(p:1000<=n)(C:-9223372036854775808<=v)(D:v<=9223372036854775807):Ok (eE n v) fun z=>isI z.Negative z.Groups v:=by
 unfold eE;refine Ok.cd (fun h=>?_) (fun h=>?_)
 ·have j:v<0:=by simpa using h
  have e:aa .u64 (aa .u64 (Jt (0-Jt (v+1)))+1)=-v:=by
   rw[wrap64_in (n:=v+1) (by omega) (by omega),wrap64_in (by omega) (by omega),aE (n:=0-(v+1)) (by omega) (by omega),aE (by omega) (by omega)];omega
  rw[e];refine Ok.bd (lH p (by omega) (by omega)) ?_;rintro r ⟨h1,h2,q⟩;refine Ok.bd (dy p true h1.dig (by omega)) ?_;intro z m;rw[h2]at m;refine ar.2 ?_;simpa using m
 ·have j:0<=v:=by simpa using h
  rw[aE j (by omega)];refine Ok.bd (lH p (by omega) (by omega)) ?_;rintro r ⟨h1,h2,q⟩;refine Ok.bd (dy p false h1.dig (by omega)) ?_;intro z m;rw[h2]at m;exact ar.2 m
theorem lP{n:Nat}{x:ag}{v:Int}(q:1000<=n)(z:x.Groups.length<=900)(h:isI x.Negative x.Groups v):cS n x=some true:=by
 obtain⟨h1,h2,C⟩:=h;apply Ok.eq;unfold cS;refine Ok.bd (R:=fun o=>match o with|.inl _=>True|.inr _=>False) ?_ ?_
 ·refine oq (len:=x.Groups.length) (fun k=>True) (by omega) (by omega) trivial ?_ ?_
  ·intro again k hk _ p;refine Ok.cd (fun _=>?_) (fun h=>?_)
   ·refine Ok.gd (by rw[bb];simpa using hk) ?_;rw[dN];have:=cI h1.dig k;refine Ok.cd (fun h=>?_) (fun h=>p trivial);have:=dcT h;omega
   ·simp at h;omega
  ·intro again _;refine Ok.cd (fun h=>?_) (fun h=>ar.2 trivial);simp at h
 ·rintro(_|r) h
  ·refine Ok.cd (fun h=>?_) (fun h=>?_)
   ·have m:x.Groups=[]:=by simpa using h
    refine ar.2 ?_;cases hh:x.Negative with|false=>rfl|true=>exact absurd m (h2 hh)
   ·have m:x.Groups≠[]:=by simpa using h
    have j:0<x.Groups.length:=List.length_pos_iff.2 m;rw[lS j (by omega)];refine Ok.gd (by rw[bb];simp;omega) (ar.2 ?_);rw[dN];simpa using rP h1 m
  ·exact h.elim
theorem kC{n:Nat}{x:ag}{v:Int}(j:1000<=n)(m:x.Groups.length<=900)(h:isI x.Negative x.Groups v):bm n x=some x:=by
 unfold bm;rw[lP j m h];show gdO _ (gdO _ _)=_;have e1:decide ((0+x.Groups.length)*4<=140737488355328)=true:=by simp;omega
 have e2:decide (0+x.Groups.length<=4611686018427387904)=true:=by simp;omega
 rw[e1,e2];rfl
theorem jK{n:Nat}{x:ag}{v:Int}(m:1000<=n)(p:x.Groups.length<=900)(h:isI x.Negative x.Groups v):cJ n x=some (sgn v):=by
 unfold cJ;rw[kC m p h,BD h];show cdO _ _ _=_;by_cases j:x.Groups=[]
 ·rw[j];rfl
 ·have e:(((x.Groups.length:Int):Int)==0)=false:=by simp[j]
  rw[e,if_neg j];cases x.Negative<;>rfl
theorem og{n:Nat}{x:ag}{v:Int}(j:1000<=n)(m:x.Groups.length<=900)(h:isI x.Negative x.Groups v):Ok (eW n x) fun z=>isI z.Negative z.Groups (-v):=by
 unfold eW;refine Ok.bde (kC j m h) ?_;refine Ok.bd (dy j _ h.1.dig m) fun z p=>ar.2 ?_
 have:-v=if (!x.Negative)=true then-vl x.Groups else vl x.Groups:=by rw[h.2.2];cases x.Negative<;>simp
 rw[this];exact p
theorem mQ{n:Nat}{l:List Int}{k:Nat}(h:Dig l):aV n l (k:Int)=some (l.getD k 0):=by
 unfold aV;have j:=cI h k;by_cases h:k<l.length
 ·have e:decide ((k:Int)<(l.length:Int))=true:=by simp;omega
  rw[e,bb,dN];have e:decide (k<l.length)=true:=by simpa using h
  rw[e,aE (by omega) (by omega)];rfl
 ·have e:decide ((k:Int)<(l.length:Int))=false:=by simp;omega
  rw[e,uw (by omega)];rfl
end Go.L.R


set_option linter.all false
namespace Go.L.R
open Go Go.Eng Go.L
theorem td{m:Int}(h:0<=m):m.tdiv 1000000000=m / 1000000000/\m.tmod 1000000000=m%1000000000:=⟨Int.tdiv_eq_ediv_of_nonneg h,Int.tmod_eq_emod_of_nonneg h⟩
theorem vU{n:Nat}{a b:List Int}(S:1000<=n)(D:Dig a)(E:Dig b)(T:a.length<=400)(lb:b.length<=400):Ok (gP n a b) fun r=>Can r/\vl r=vl a+vl b:=by
 unfold gP;obtain⟨M,h1,h2,h3,h4⟩:∃M:Nat,a.length<=M/\b.length<=M/\M<=400/\(M=a.length\/M=b.length):=by
  by_cases h:a.length<=b.length
  ·exact⟨b.length,h,by omega,lb,.inr rfl⟩
  ·exact⟨a.length,by omega,by omega,T,.inl rfl⟩
 refine Ok.bd (R:=fun r=>Dig r.1/\r.1.length=M/\(r.2=0\/r.2=1)/\vl r.1+pB M*r.2=vl a+vl b) ?_ ?_
 ·refine dx (fun x:List Int×Int×Int=>∃k:Nat,x.2.2=(k:Int)/\k<=M/\x.1.length=k/\Dig x.1/\(x.2.1=0\/x.2.1=1)/\vl x.1+pB k*x.2.1=vk a k+vk b k) (fun x=>M-x.2.2.toNat) ?_ n _
   ⟨0,rfl,by omega,rfl,nA,.inl rfl,by simp[ji,vl]⟩ (by simp;omega)
  rintro again ⟨out,c,x⟩ ⟨k,O,q,m,p,C,I⟩ U;simp only at O m p C I;subst O;dsimp only;rw[mQ D,mQ E];have da:=cI D k;have db:=cI E k;have step:k<M->Ok (bdO (some (a.getD k 0)) fun v22=>bdO (some (b.getD k 0)) fun v24=>gdO (decide ((out.length+1)*4<=140737488355328)) (gdO (decide (out.length+1<=4611686018427387904)) (again (out++[aa .u32 ((aa .u64 ((aa .u64 (v22+v24))+c)).tmod 1000000000)],aa .u64 ((aa .u64 ((aa .u64 (v22+v24))+c)).tdiv 1000000000),Jt ((k:Int)+1)))))
    fun r=>Dig r.1/\r.1.length=M/\(r.2=0\/r.2=1)/\vl r.1+pB M*r.2=vl a+vl b:=by
   intro hk;show Ok (gdO _ _) _;refine Ok.gd (by simp;omega) (Ok.gd (by simp;omega) ?_);generalize hs:aa .u64 (aa .u64 (a.getD k 0+b.getD k 0)+c)=s;have Y:s=a.getD k 0+b.getD k 0+c:=by rw[<-hs,aE (n:=a.getD k 0+b.getD k 0) (by omega) (by omega),aE (by omega) (by omega)]
   rw[(td (by omega)).1,(td (by omega)).2,aE (by omega) (by omega),bj (by omega) (by omega),jI (by omega)];refine U _ ⟨k+1,rfl,by omega,by simp;omega,kN.2 ⟨p,fV.2 (by omega)⟩,by simp only;omega,?_⟩ (by simp;omega);simp only;rw[lI,gY,m,fK,fK,cL];have:a.getD k 0+b.getD k 0+c=s%1000000000+1000000000*(s / 1000000000):=by omega
   grind
  refine Ok.cd (fun h=>?_) (fun h=>Ok.cd (fun J=>?_) (fun J=>?_))
  ·exact step (by have:=dcT h;omega)
  ·exact step (by have:=dcT J;omega)
  ·have:=dcF h;have:=dcF J;obtain rfl:k=M:=by omega
   rw[gx (l:=a) (by omega),gx (l:=b) (by omega)]at I;exact ar.2 ⟨p,m,C,I⟩
 ·rintro⟨out,c⟩ ⟨q,m,p,C⟩;simp only at q m p C;dsimp only;refine Ok.gd (by simp;omega) (Ok.gd (by simp;omega) ?_);rw[bj (by omega) (by omega)];refine Ok.bd (dy S false (kN.2 ⟨q,fV.2 (by omega)⟩) (by simp;omega)) fun z N=>ar.2 ⟨N.1,?_⟩
  have:=N.2.2;have j:=gV N;have Z:=aZ q;have a1:=gM M;rw[lI,gY,m]at j;have:0<=vl a+vl b:=by have:=aZ D;have:=aZ E;omega
  simp only[Bool.false_eq_true,if_false]at j;omega
theorem mS{n:Nat}{a b:List Int}(M:1000<=n)(C:Dig a)(D:Dig b)(S:a.length<=400)(lb:b.length<=a.length)(hle:vl b<=vl a):Ok (cm n a b) fun r=>Can r/\vl r=vl a-vl b:=by
 unfold cm;refine Ok.bd (R:=fun r=>Dig r/\r.length=a.length/\vl r=vl a-vl b) ?_ ?_
 ·refine dx (fun x:List Int×Int×Int=>∃k:Nat,x.2.2=(k:Int)/\k<=a.length/\x.1.length=k/\Dig x.1/\(x.2.1=0\/x.2.1=1)/\vl x.1-pB k*x.2.1=vk a k-vk b k) (fun x=>a.length-x.2.2.toNat) ?_ n _
   ⟨0,rfl,by omega,rfl,nA,.inl rfl,by simp[ji,vl]⟩ (by simp;omega)
  rintro again ⟨out,c,x⟩ ⟨k,E,I,m,p,j,q⟩ N;simp only at E m p j q;subst E;dsimp only;rw[mQ C,mQ D];have T:=cI C k;have U:=cI D k;refine Ok.cd (fun h=>?_) (fun h=>?_)
  ·have hk:k<a.length:=by have:=dcT h;omega
   show Ok (gdO _ _) _;refine Ok.gd (by simp;omega) (Ok.gd (by simp;omega) ?_);generalize hs:aa .u64 (aa .u64 (aa .u64 (1000000000+a.getD k 0)-b.getD k 0)-c)=s;have O:s=1000000000+a.getD k 0-b.getD k 0-c:=by rw[<-hs,aE (n:=1000000000+a.getD k 0) (by omega) (by omega),aE (n:=1000000000+a.getD k 0-b.getD k 0) (by omega) (by omega),aE (by omega) (by omega)]
   rw[(td (by omega)).1,(td (by omega)).2,aE (n:=s / 1000000000) (by omega) (by omega),aE (by omega) (by omega),bj (by omega) (by omega),jI (by omega)];refine N _ ⟨k+1,rfl,by omega,by simp;omega,kN.2 ⟨p,fV.2 (by omega)⟩,by simp only;omega,?_⟩ (by simp;omega);simp only;rw[lI,gY,m,fK,fK,cL];have:a.getD k 0-b.getD k 0-c=s%1000000000+1000000000*(s / 1000000000)-1000000000:=by omega
   grind
  ·have:=dcF h;obtain rfl:k=a.length:=by omega
   rw[gx (l:=a) (by omega),gx (l:=b) (by omega)]at q;refine ar.2 ⟨p,m,?_⟩;have:=gL p;rw[m]at this;rcases j with j|j
   ·rw[j]at q;omega
   ·rw[j]at q;omega
 ·rintro r ⟨I,m,p⟩;refine Ok.bd (dy M false I (by omega)) fun z J=>ar.2 ⟨J.1,?_⟩
  have:=gV J;simp only[Bool.false_eq_true,if_false]at this;omega
theorem zf{n:Nat}{a b:List Int}(I:1000<=n)(p:Can a)(q:Can b)(J:a.length<=400)(lb:b.length<=400):di n a b=some (sgn (vl a-vl b)):=by
 apply Ok.eq;unfold di;refine Ok.cd (fun h=>Ok.cd (fun m=>?_) (fun m=>?_)) (fun h=>?_)
 ·have:=dcT m;have:=cr p.dig q (by omega);exact ar.2 (kS (by omega)).symm
 ·have h1:=dcF m;have h2:a.length≠b.length:=by intro e;rw[e]at h;simp at h
  have:=cr q.dig p (by omega);exact ar.2 (qe (by omega)).symm
 ·have M:a.length=b.length:=by simp at h;omega
  refine Ok.bd (R:=fun o=>match o with|.inl _=>sgn (vl a-vl b)=0|.inr r=>r=sgn (vl a-vl b)) ?_ ?_
  ·refine dx (fun i:Int=>∃k:Nat,i=(k:Int)-1/\k<=a.length/\vl a-vl b=vk a k-vk b k) (fun i=>(i+1).toNat) ?_ n _ ⟨a.length,by rw[wrap64_in (by omega) (by omega)],Nat.le_refl _,by rw[gx (by omega),gx (by omega)]⟩ (by rw[wrap64_in (by omega) (by omega)];omega);rintro again _ ⟨k,rfl,h1,h2⟩ C;refine Ok.cd (fun h=>?_) (fun h=>?_)
   ·have hk:=dcT h;obtain⟨j,rfl⟩:∃j,k=j+1:=⟨k-1,by omega⟩;have e:(((j+1:Nat):Int)-1)=(j:Int):=by omega
    rw[e];refine Ok.gd (by rw[bb];simp;omega) (Ok.gd (by rw[bb];simp;omega) ?_);rw[dN,dN];have N:=ui p.dig j;have O:=ui q.dig j;have D:=jC p.dig j;have E:=jC q.dig j;rw[fK,fK]at h2;have hp:=gM j;refine Ok.cd (fun h=>?_) (fun h=>Ok.cd (fun m=>?_) (fun m=>?_))
    ·have z:=dcT h;have:pB j*1<=pB j*(b.getD j 0-a.getD j 0):=mlT (by omega) (by omega);rw[Int.mul_sub]at this;exact ar.2 (kS (by omega)).symm
    ·have z:=dcT m;have:pB j*1<=pB j*(a.getD j 0-b.getD j 0):=mlT (by omega) (by omega);rw[Int.mul_sub]at this;exact ar.2 (qe (by omega)).symm
    ·have g1:=dcF h;have g2:=dcF m;have e:a.getD j 0=b.getD j 0:=by omega
     rw[e]at h2;refine C _ ⟨j,by rw[wrap64_in (by omega) (by omega)],by omega,by omega⟩ (by rw[wrap64_in (by omega) (by omega)];omega)
   ·have:=dcF h;obtain rfl:k=0:=by omega
    rw[ji,ji]at h2;refine ar.2 ?_;show sgn _=0;rw[h2];rfl
  ·rintro(_|r) h
   ·exact ar.2 h.symm
   ·exact ar.2 h
theorem xj{n:Nat}{x y:ag}{v w:Int}(C:1000<=n)(j:isI x.Negative x.Groups v)(m:isI y.Negative y.Groups w)(E:x.Groups.length<=400)(I:y.Groups.length<=400):Ok (fR n x y) fun z=>isI z.Negative z.Groups (v+w):=by
 unfold fR;refine Ok.bde (kC C (by omega) j) (Ok.bde (kC C (by omega) m) ?_);obtain⟨p,a⟩:=x;obtain⟨q,b⟩:=y;simp only at j m E I;dsimp only;have M:∀{r:List Int},Can r->vl r<=vl a+vl b->r.length<=900:=by
  intro r N O;have:=kK N (k:=401) (by
   have S:=gL j.1.dig;have a2:=gL m.1.dig;have T:=ik E;have U:=ik I;have Y:pB 401=1000000000*pB 400:=cL 400;have:=gM 400;omega)
  omega
 have Z:=aZ j.1.dig;have pb:=aZ m.1.dig;refine Ok.cd (fun h=>?_) (fun h=>?_)
 ·have D:p=q:=by simpa using h
  subst D;refine Ok.bd (vU C j.1.dig m.1.dig E I) ?_;rintro r ⟨h1,h2⟩;refine Ok.bd (dy C _ h1.dig (M h1 (by omega))) fun z J=>ar.2 ?_
  have:v+w=if p=true then-vl r else vl r:=by rw[j.2.2,m.2.2,h2];cases p<;>simp<;>omega
  rw[this];exact J
 ·rw[zf C j.1 m.1 E I];show Ok (cdO _ _ _) _;have D:p=!q:=by cases p<;>cases q<;>simp at h ⊢
  refine Ok.cd (fun h=>?_) (fun h=>?_)
  ·have hle:vl b<=vl a:=by
    by_cases hh:vl a-vl b<0
    ·rw[kS hh]at h;simp at h
    ·omega
   have hlen:b.length<=a.length:=by
    by_cases hh:a.length<b.length
    ·have:=cr j.1.dig m.1 hh;omega
    ·omega
   refine Ok.bd (mS C j.1.dig m.1.dig E hlen hle) ?_;rintro r ⟨h1,h2⟩;refine Ok.bd (dy C _ h1.dig (M h1 (by omega))) fun z J=>ar.2 ?_
   have:v+w=if p=true then-vl r else vl r:=by rw[j.2.2,m.2.2,h2,D];cases q<;>simp<;>omega
   rw[this];exact J
  ·have hle:vl a<vl b:=by
    rcases cM (vl a-vl b)with⟨g1,g2⟩|⟨g1,g2⟩|⟨g1,g2⟩
    ·omega
    ·rw[g2]at h;simp at h
    ·rw[g2]at h;simp at h
   have hlen:a.length<=b.length:=by
    by_cases hh:b.length<a.length
    ·have:=cr m.1.dig j.1 hh;omega
    ·omega
   refine Ok.bd (mS C m.1.dig j.1.dig I hlen (by omega)) ?_;rintro r ⟨h1,h2⟩;refine Ok.bd (dy C _ h1.dig (M h1 (by omega))) fun z J=>ar.2 ?_
   have:v+w=if q=true then-vl r else vl r:=by rw[j.2.2,m.2.2,h2,D];cases q<;>simp<;>omega
   rw[this];exact J
theorem DX{n:Nat}{x y:ag}{v w:Int}(p:1000<=n)(q:isI x.Negative x.Groups v)(j:isI y.Negative y.Groups w)(C:x.Groups.length<=400)(D:y.Groups.length<=400):Ok (dd n x y) fun z=>isI z.Negative z.Groups (v-w):=by
 unfold dd;refine Ok.bd (og p (by omega) j) fun z m=>?_
 have E:z.Groups.length<=400:=kK m.1 (k:=400) (by
  have h1:=gV m;have h2:=gV j;have J:=gL j.1.dig;have:=ik D;omega)
 refine Ok.bd (xj p q m C E) fun r I=>ar.2 ?_
 rw[(by omega:v-w=v+-w)];exact I
theorem kR{n:Nat}{x y:ag}{v w:Int}(Y:1000<=n)(D:isI x.Negative x.Groups v)(E:isI y.Negative y.Groups w)(lx:x.Groups.length<=400)(ly:y.Groups.length<=400):Ok (cg n x y) fun z=>isI z.Negative z.Groups (v*w):=by
 unfold cg;refine Ok.bde (kC Y (by omega) D) (Ok.bde (kC Y (by omega) E) ?_);obtain⟨p,a⟩:=x;obtain⟨q,b⟩:=y;simp only at D E lx ly;dsimp only;have ha:=D.1.dig;have hb:=E.1.dig;rw[mH (by omega) (by omega)];refine Ok.gd (by simp;try omega) (Ok.gd (by simp;try omega) (Ok.gd (by simp;try omega) ?_));refine Ok.bd (R:=fun r=>Dig r/\r.length<=900/\vl r=vl a*vl b) ?_ (fun r h=>Ok.bd (dy Y _ h.1 h.2.1) fun z hz=>ar.2 ?_)
 ·refine dx (fun x:List Int×Int=>∃i:Nat,x.2=(i:Int)/\i<=a.length/\x.1.length=a.length+b.length/\Dig x.1/\(∀j,i+b.length<=j->x.1.getD j 0=0)/\vl x.1=vk a i*vl b) (fun x=>a.length-x.2.toNat) ?_ n _
   ⟨0,rfl,by omega,(by simp;omega),qb _,fun j _=>uT,by simp[ji,vg]⟩ (by simp;omega)
  rintro again ⟨out,x⟩ ⟨i,D,h4,h5,Z,h7,T⟩ ih;simp only at D h5 Z h7 T;subst D;dsimp only;have da:=cI ha i;refine Ok.cd (fun h=>?_) (fun h=>?_)
  ·have hi:i<a.length:=by simp at h;omega
   refine Ok.bd (R:=fun r=>r.1.length=a.length+b.length/\Dig r.1/\(0<=r.2/\r.2<1000000000)/\(∀j,i+b.length<=j->r.1.getD j 0=0)/\vl r.1+pB (i+b.length)*r.2=vk a i*vl b+pB i*a.getD i 0*vl b) ?_ ?_
   ·refine dx (fun y:List Int×Int×Int=>∃j:Nat,y.2.2=(j:Int)/\j<=b.length/\y.1.length=a.length+b.length/\Dig y.1/\(0<=y.2.1/\y.2.1<1000000000)/\(∀m,i+b.length<=m->y.1.getD m 0=0)/\vl y.1+pB (i+j)*y.2.1=vk a i*vl b+pB i*a.getD i 0*vk b j) (fun y=>b.length-y.2.2.toNat) ?_ n _
     ⟨0,rfl,by omega,h5,Z,by simp,h7,by simp[ji,T]⟩ (by simp;omega)
    rintro U ⟨C,c,y⟩ ⟨j,E,k4,M,I,N,J,O⟩ a1;simp only at E M I N J O;subst E;dsimp only;have db:=cI hb j;refine Ok.cd (fun h=>?_) (fun h=>?_)
    ·have hj:j<b.length:=by simp at h;omega
     rw[mH (by omega) (by omega)];refine Ok.gd (by rw[bb];simp;omega) (Ok.gd (by rw[bb];simpa using hi) (Ok.gd (by rw[bb];simpa using hj) ?_));rw[dN,dN,dN];have S:=cI I (i+j);obtain⟨e1,e2,e3⟩:=xl da db S N;rw[e1];generalize hs:C.getD (i+j) 0+a.getD i 0*b.getD j 0+c=s at e1 e2 e3;rw[(td e2).1,(td e2).2,bj (by omega) (by omega),aE (by omega) (by omega),jI (by omega),Int.toNat_natCast];refine a1 _ ⟨j+1,rfl,by omega,by simpa using M,jN I (by omega),by simp only;omega,?_,?_⟩ (by simp;omega)
     ·intro m hm;simp only;rw[iR (by omega)];exact J m hm
     ·simp only;rw[mq (by omega),fK,<-Nat.add_assoc,cL,lR];rw[lR]at O;have:s=s%1000000000+1000000000*(s / 1000000000):=by omega
      grind
    ·have hj:j=b.length:=by simp at h;omega
     subst hj;rw[gx (l:=b) (by omega)]at O;exact ar.2 ⟨M,I,N,J,O⟩
   ·rintro⟨C,c⟩ ⟨M,I,N,J,O⟩;simp only at M I N J O;dsimp only;rw[mH (by omega) (by omega)];refine Ok.gd (by rw[bb];simp;omega) ?_;rw[bj (by omega) (by omega),jI (by omega),Int.toNat_natCast];refine ih _ ⟨i+1,rfl,by omega,by simpa using M,jN I N,?_,?_⟩ (by simp;omega)
    ·intro m hm;simp only;rw[iR (by omega)];exact J m (by omega)
    ·simp only;rw[mq (by omega),fK,J _ (by omega)];grind
  ·have hi:i=a.length:=by simp at h;omega
   subst hi;rw[gx (l:=a) (by omega)]at T;exact ar.2 ⟨Z,by omega,T⟩
 ·have:v*w=if (p !=q)=true then-vl r else vl r:=by
   rw[D.2.2,E.2.2,h.2.2];cases p<;>cases q<;>simp<;>grind
  rw[this];exact hz
end Go.L.R

